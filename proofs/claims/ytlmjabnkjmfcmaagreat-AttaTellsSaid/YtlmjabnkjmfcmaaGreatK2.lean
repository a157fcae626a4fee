/- Own texts, joined and shortened by a program; no condition. -/
import Derived.Test.YtlmjabnkjmfcmaaGreatK1
import Derived.Laws.CopyOwn
namespace Go.Proofs.YtlmjabnkjmfcmaaGreat
open Go Go.RowKit Go.PlainAid
set_option linter.unusedVariables false
set_option linter.unusedSimpArgs false
set_option maxHeartbeats 20000000
set_option linter.defProp false
namespace Ab
variable {lim : Nat -> Nat} {bs : List Nat} {w : World} {P : Program} {T : jL} {a : Act} {o : Oper} {cs : List (List AV)} {out : Out}
theorem kZ {x:AV} (h:x.flat=true):x.isRow=false:=by cases x<;>first|rfl|(rw [AV.flat] at h;cases h)
structure PO (P:Program) (lim:Nat->Nat) (bs:List Nat) (w:World) (a:Act) (o:Oper) (cs:List (List AV)) (out:Out):Prop where
 bs_:out.bs=cs
 nw:out.nw=[]
 fl:out.v.flat=true
 run:∃u,(execOp a.eval o).run P w=.ok (.value u) w∧AV.R lim bs w out.v u
structure Av (lim:Nat->Nat) (bs:List Nat) (w:World) (x:AV) (u:Value):Prop where
 r:AV.R lim bs w x u
 t:x.top=true
theorem Av.flat {x:AV} {u:Value} (h:Av lim bs w x u):x.bY.flat=true:=AV.R.oo h.t h.r
theorem dG {v:AV} {cs:List (List AV)} {ok:Bool} (h:fC v cs ok=some out):out=⟨v,cs,[],ok⟩:=by unfold fC at h;cases h;rfl
theorem ji {v:AV} {cs:List (List AV)} (h:yes v cs=some out):out=⟨v,cs,[],true⟩:=by unfold yes at h;cases h;rfl
theorem aeo (HT:kN P T) {op:BinOp} {t t':TypeId} {x y:Operand} {X Y:AV} (ho:o.op=.binOp op t x y t') (hx:Av lim bs w X (a.eval x)) (hy:Av lim bs w Y (a.eval y)) (h:G5 op t X Y cs=some out) (hok:out.ok=true):PO P lim bs w a o cs out:=by
 unfold G5 at h;split at h
 ·rename_i v ok hb;have:=dG h;subst this;obtain ⟨u,h1,h2,h3,-⟩:=VL (P:=P) (t:=t) (ox:=x) (oy:=y) hb hok hx.r hy.r;refine ⟨rfl,rfl,h3,u,?_,h2⟩;unfold execOp;simp only [ho];rw [Sem.run_bind,h1];rfl
 ·split at h
  ·cases h
  ·rename_i b hb;split at h
   ·have:=ji h;subst this;refine ⟨rfl,rfl,rfl,.bool b,?_,by rw [AV.R]⟩;unfold execOp;simp only [ho];rw [Sem.run_bind,Jd HT hb (.inl rfl) hx.r hy.r];rfl
   ·have:=ji h;subst this;refine ⟨rfl,rfl,rfl,.bool !b,?_,by rw [AV.R]⟩;unfold execOp;simp only [ho];rw [Sem.run_bind,Jd HT hb (.inr rfl) hx.r hy.r];rfl
   ·cases h
theorem aan {c x y:Operand} {C X Y:AV} (ho:o.op=.pick c x y) (hc:Av lim bs w C (a.eval c)) (hx:Av lim bs w X (a.eval x)) (hy:Av lim bs w Y (a.eval y)) (h:Ol C X Y cs=some out):PO P lim bs w a o cs out:=by
 unfold Ol at h;split at h
 ·rename_i t;have:=ji h;subst this;have h1:=hc.r;rw [AV.R] at h1;refine ⟨rfl,rfl,?_,if t=true then a.eval x else a.eval y,?_,?_⟩
  ·show (if t=true then X.bY else Y.bY).flat=true;split
   ·exact hx.flat
   ·exact hy.flat
  ·unfold execOp;simp only [ho,h1,asBool];cases t<;>rfl
  ·show AV.R lim bs w (if t=true then X.bY else Y.bY) _;split
   ·exact hx.r.bY
   ·exact hy.r.bY
 ·cases h
theorem aem {x:Operand} {X:AV} (ho:o.op=.nilCheck x) (hx:Av lim bs w X (a.eval x)) (h:XD X cs=some out):PO P lim bs w a o cs out:=by
 unfold XD at h;split at h
 ·rename_i i o';have:=ji h;subst this;have h1:=hx.r;rw [AV.R] at h1;obtain ⟨b,h2,h3⟩:=h1;refine ⟨rfl,rfl,rfl,a.eval x,?_,hx.r⟩;unfold execOp;simp only [ho,h3];rfl
 ·rename_i l;have:=ji h;subst this;have h1:=hx.r;have hf:=hx.t;rw [AV.R] at h1;obtain ⟨b,o',h3,-⟩:=h1;refine ⟨rfl,rfl,by simpa [AV.top,AV.isRow] using hf,a.eval x,?_,hx.r⟩;unfold execOp;simp only [ho,h3];rfl
 ·cases h
theorem ael {op:UnOp} {t:TypeId} {x:Operand} {X:AV} (ho:o.op=.unOp op t x) (hx:Av lim bs w X (a.eval x)) (h:XC op X cs=some out):PO P lim bs w a o cs out:=by
 unfold XC at h;split at h
 ·rename_i b;split at h
  ·have:=ji h;subst this;have h1:=hx.r;rw [AV.R] at h1;refine ⟨rfl,rfl,rfl,.bool !b,?_,by rw [AV.R]⟩;unfold execOp;simp only [ho,h1];rfl
  ·cases h
 ·cases h
theorem aaq (HT:kN P T) {s t:TypeId} {x:Operand} {X:AV} (ho:o.op=.convert s t x) (hx:Av lim bs w X (a.eval x)) (h:J9 s t X cs=some out) (hok:out.ok=true):PO P lim bs w a o cs out:=by
 unfold J9 at h;split at h
 ·rename_i k n;have:=dG h;subst this;have h1:=hx.r;rw [AV.R] at h1;obtain ⟨e1,e2⟩:s=5∧t=3:=by simpa using hok
  subst e1 e2;refine ⟨rfl,rfl,rfl,.int .i64 (IntKind.i64.wrap n),?_,by rw [AV.R]⟩;unfold execOp;simp only [ho,h1,convert,Sem.run_bind,run_underlying HT.u8,run_underlying HT.i64,Result.andThen_ok,Conv.intToInt,Sem.run_pure]
 ·cases h
theorem aao {x:Operand} {X:AV} (ho:o.op=.move x) (hx:Av lim bs w X (a.eval x)) (h:yes X.bY cs=some out):PO P lim bs w a o cs out:=by have:=ji h;subst this;refine ⟨rfl,rfl,hx.flat,a.eval x,?_,hx.r.bY⟩;unfold execOp;simp only [ho];rfl
theorem Jb (HT:kN P T) {t f:Nat} {x:Operand} {X:AV} {d:TD} {q:Nat×Nat×Bool} (ho:o.op=.fieldAddr t x f) (ht:T t=some d) (hq:d.iG[f]?=some q) (hx:Av lim bs w X (a.eval x)) (h:jd q X cs=some out) (hok:out.ok=true):PO P lim bs w a o cs out:=by
 unfold jd at h;split at h
 ·rename_i i o';have:=dG h;subst this;have hp:0<q.2.1:=by simpa using hok
  have h1:=hx.r;rw [AV.R] at h1;obtain ⟨b,h2,h3⟩:=h1;refine ⟨rfl,rfl,rfl,.pointer (some ⟨b,o'+q.1,none⟩),?_,by rw [AV.R];exact ⟨b,h2,rfl⟩⟩;unfold execOp;simp only [ho,h3];rw [Sem.run_bind,Aw HT ht hq hp];rfl
 ·rename_i l;have:=dG h;subst this;obtain ⟨hp,hl⟩:0<q.2.1∧q.1<l.length:=by simpa using hok
  have h1:=hx.r;have hf:=hx.t;rw [AV.R] at h1;obtain ⟨b,o',h3,h4,h5,h6⟩:=h1;refine ⟨rfl,rfl,?_,.pointer (some ⟨b,o'+q.1,none⟩),?_,?_⟩
  ·show AV.ak (l.drop q.1)=true;exact nI (by simpa [AV.top,AV.isRow,AV.flat] using hf)
  ·unfold execOp;simp only [ho,h3];rw [Sem.run_bind,Aw HT ht hq hp];rfl
  ·show AV.R lim bs w (.el (l.drop q.1)) _;rw [AV.R];exact ⟨b,o'+q.1,rfl,h4,by rw [List.length_drop];omega,BM h6⟩
 ·cases h
theorem VI (HT:kN P T) {t:TypeId} {x i:Operand} {X I:AV} (ho:o.op=.index t x i) (hx:Av lim bs w X (a.eval x)) (hi:Av lim bs w I (a.eval i)) (h:Dz t X I cs=some out) (hok:out.ok=true):PO P lim bs w a o cs out:=by
 unfold Dz at h;split at h
 ·rename_i s;split at h
  ·rename_i k n;have:=dG h;subst this;obtain ⟨⟨h0,h1⟩,rfl⟩:(0<=n∧n<s.size)∧t=9:=by simpa using hok
   have e1:=hx.r;have e2:=hi.r;rw [AV.R] at e1;rw [AV.R] at e2;refine ⟨rfl,rfl,rfl,.int .u8 (bt s n.toNat),?_,by rw [AV.R]⟩;unfold execOp;simp only [ho,e1,e2];rw [Sem.run_bind,O3 HT h0 h1];rfl
  ·cases h
 ·cases h
theorem yY {X:AV} {u:Value} {n:Nat} {l:List AV} (hx:Av lim bs w X u) (h:elems X=some (n,l)):
  ∃ad c,u=.slice ad n c∧n<=c∧AV.ak l=true∧(l=[]∨∃b o,ad=some ⟨b,o,none⟩∧b<w.heap.size∧o+l.length<=lim b∧AV.Rm lim bs w b o l):=by
 have hr:=hx.r.bY;have hf:=hx.flat;unfold elems at h;split at h
 ·cases h;replace hr:AV.R lim bs w .nil u:=hr;rw [AV.R] at hr;subst hr;exact ⟨none,0,rfl,Nat.le_refl _,rfl,.inl rfl⟩
 ·cases h;replace hr:AV.R lim bs w (.sl n l) u:=hr;rw [AV.R] at hr;obtain ⟨ad,c,h1,h2,h3⟩:=hr;exact ⟨ad,c,h1,h2,hf,h3⟩
 ·cases h;replace hr:AV.R lim bs w (.sl n l) u:=hr;rw [AV.R] at hr;obtain ⟨ad,c,h1,h2,h3⟩:=hr;exact ⟨ad,c,h1,h2,hf,h3⟩
 ·cases h
theorem I8 (HT:kN P T) {t e:Nat} {x i:Operand} {X I:AV} {d:TD} (ho:o.op=.indexAddr t x i) (he:vC T t=some (e,d)) (hx:Av lim bs w X (a.eval x)) (hi:Av lim bs w I (a.eval i)) (h:nM d X I cs=some out) (hok:out.ok=true):PO P lim bs w a o cs out:=by
 unfold nM at h;split at h
 ·rename_i b e' z m;split at h
  ·rename_i k n;have:=dG h;subst this;obtain ⟨⟨h0,h1⟩,h2⟩:(0<=n∧n<m)∧d.size=z:=by simpa using hok
   subst h2;have e1:=hx.r;rw [AV.R] at e1;obtain ⟨bb,c,cur,f1,-,-,f2,-,f3⟩:=e1;have e5:=hi.r;rw [AV.R] at e5;refine ⟨rfl,rfl,rfl,.pointer (some ⟨bb,0+n.toNat*d.size,none⟩),?_,?_⟩
   ·unfold execOp;simp only [ho,f3,e5];rw [Sem.run_bind,Au HT he h0 h1];rfl
   ·rw [AV.R,Nat.zero_add];exact ⟨bb,f1,rfl⟩
  ·cases h
 ·split at h
  ·cases h
  ·rename_i m l hl;split at h
   ·rename_i k n;have:=dG h;subst this;obtain ⟨⟨h0,h1⟩,h2⟩:(0<=n∧n<m)∧n.toNat*d.size<l.length:=by simpa using hok
    obtain ⟨ad,c,e1,e2,e3,e4⟩:=yY hx hl;have e5:=hi.r;rw [AV.R] at e5;rcases e4 with e4|⟨b,o',rfl,f1,f2,f3⟩
    ·subst e4;simp at h2
    refine ⟨rfl,rfl,nI e3,.pointer (some ⟨b,o'+n.toNat*d.size,none⟩),?_,?_⟩
    ·unfold execOp;simp only [ho,e1,e5];rw [Sem.run_bind,Au HT he h0 h1];rfl
    ·show AV.R lim bs w (.el (l.drop _)) _;rw [AV.R];exact ⟨b,_,rfl,f1,by rw [List.length_drop];omega,BM f3⟩
   ·cases h
theorem O1 {x:Operand} {X:AV} {i:Nat} (ho:o.op=.extract x i) (hx:Av lim bs w X (a.eval x)) (h:vG X i cs=some out):PO P lim bs w a o cs out:=by
 unfold vG at h;split at h
 ·rename_i l;split at h
  ·rename_i v hv;have:=ji h;subst this;have h1:=hx.r;have hf:=hx.t;rw [AV.R] at h1;obtain ⟨vs,h2,h3⟩:=h1;obtain ⟨u,h4,h5⟩:=kU h3 hv;refine ⟨rfl,rfl,eH (by simpa [AV.top,AV.isRow,AV.flat] using hf) hv,u,?_,h5⟩;have h6:vs[i]?=some u:=by simpa using h4
   unfold execOp;simp only [ho,h2,Instr.extract,h6];rfl
  ·cases h
 ·cases h
theorem O0 (HT:kN P T) {t:Nat} {x:Operand} {l:List AV} {d:TD} {ad:Bool} (ho:o.op=.load t x) (ht:T t=some d) (hx:Av lim bs w (.el l) (a.eval x)) (h:ou d ad (.el l) cs=some out) (hok:out.ok=true):PO P lim bs w a o cs out:=by
 have h1:=hx.r;have hf:AV.ak l=true:=by simpa [AV.top,AV.isRow,AV.flat] using hx.t
 rw [AV.R] at h1;obtain ⟨b,o',h3,h4,h5,h6⟩:=h1;unfold ou at h;simp only [] at h;split at h
 ·rename_i ha;have:=dG h;subst this;have hl:d.size<=l.length:=by simpa using hok
  obtain ⟨vs,v1,v2,v3⟩:=uw (Hm (n:=d.size) h6);refine ⟨rfl,rfl,qB hf,.agg vs.toArray,?_,?_⟩
  ·unfold execOp;simp only [ho,h3];rw [Sem.run_bind,tK HT ht ha (by rw [v1,List.length_take];omega) v3];rfl
  ·show AV.R lim bs w (.agg _) _;rw [AV.R];exact ⟨_,rfl,by simpa using v2⟩
 ·rename_i ha;split at h
  ·rename_i v r;have:=ji h;subst this;rw [AV.Rm] at h6;obtain ⟨⟨u,e1,e2⟩,-⟩:=h6;obtain ⟨ud,hu,hr,-⟩:=HT.und t d ht;rw [AV.ak,Bool.and_eq_true] at hf;refine ⟨rfl,rfl,hf.1,u,?_,e2⟩;unfold execOp;simp only [ho,h3];rw [Sem.run_bind,tL hu (by rw [hr];simpa using ha) e1];rfl
  ·cases h
theorem RF {t:TypeId} {u:TypeDesc} {i:TypeInfo} (hu:P.underlying t=some u) (hi:P.info? t=some i) (vs:Array Value) (o:Nat) (hl:o+i.size<=vs.size):
  (u.isRow=true->(part t vs o).run P w=.ok (.agg (vs.extract o (o+i.size))) w)∧(∀v,u.isRow=false->vs[o]?=some v->(part t vs o).run P w=.ok v w):=by
 constructor
 ·intro h;simp [part,Sem.run_bind,vT hu w,h,run_sizeOf hi]
 ·intro v h hv;simp [part,Sem.run_bind,vT hu w,h,hv]
theorem VJ (HT:kN P T) {t f:Nat} {x:Operand} {X:AV} {d:TD} {q:Nat×Nat×Bool} (ho:o.op=.field t x f) (ht:T t=some d) (hq:d.iG[f]?=some q) (hx:Av lim bs w X (a.eval x)) (h:xK q X cs=some out) (hok:out.ok=true):PO P lim bs w a o cs out:=by
 cases ha:d.agg with
 |false=>rw [HT.off t d ht ha] at hq;cases hq
 |true=>
 obtain ⟨fs,hu,-,hfl⟩:=HT.fld t d ht ha;obtain ⟨fl,i,u,h1,h2,h3,h4,h5,h6⟩:=hfl f q hq;unfold xK at h;split at h
 ·rename_i l;have e1:=hx.r;have hf:AV.ak l=true:=by simpa [AV.top,AV.isRow,AV.flat] using hx.t
  rw [AV.R] at e1;obtain ⟨vs,e2,e3⟩:=e1;have hlen:=AV.fB e3;have kX:vs.size=l.length:=by simpa using hlen
  split at h
  ·rename_i hr;have:=dG h;subst this;have hl:q.1+q.2.1<=l.length:=by simpa using hok
   refine ⟨rfl,rfl,qB (nI hf),.agg (vs.extract q.1 (q.1+q.2.1)),?_,?_⟩
   ·unfold execOp;simp only [ho,e2,Instr.field,Sem.run_bind,run_underlying hu,Result.andThen_ok,h1,asAgg,Sem.run_pure,h2];rw [(RF h5 h3 vs q.1 oM).1 (by rw [h6,hr]),h4];rfl
   ·show AV.R lim bs w (.agg _) _;rw [AV.R];refine ⟨_,rfl,?_⟩;have:(vs.extract q.1 (q.1+q.2.1)).toList=(vs.toList.drop q.1).take q.2.1:=by rw [Array.toList_extract,List.extract_eq_take_drop];congr 1;omega
    rw [this];exact rH (wJ e3)
  ·rename_i hr;split at h
   ·rename_i v hv;have:=ji h;subst this;obtain ⟨u',f1,f2⟩:=kU e3 hv;have hlt:q.1<l.length:=by
     rcases Nat.lt_or_ge q.1 l.length with h'|h'
     ·exact h'
     ·rw [List.getElem?_eq_none h'] at hv;cases hv
    refine ⟨rfl,rfl,eH hf hv,u',?_,f2⟩;have f3:vs[q.1]?=some u':=by simpa using f1
    have hr2:u.isRow=false:=by rw [h6];simpa using hr
    unfold execOp;simp only [ho,e2,Instr.field,Sem.run_bind,run_underlying hu,Result.andThen_ok,h1,asAgg,Sem.run_pure,h2];have:(part fl.type vs q.1).run P w=.ok u' w:=by simp [part,Sem.run_bind,vT h5 w,hr2,f3]
    rw [this];rfl
   ·cases h
 ·cases h
theorem VH (HT:kN P T) {t:TypeId} {x:Operand} {lo hi:Option Operand} {X:AV} {L H:Option AV} (ho:o.op=.slice t x lo hi none) (hx:Av lim bs w X (a.eval x)) (hL:∀y,lo=some y->∃Y,L=some Y∧Av lim bs w Y (a.eval y)) (hL0:lo=none->L=none) (hH:∀y,hi=some y->∃Y,H=some Y∧Av lim bs w Y (a.eval y)) (hH0:hi=none->H=none)
  (h:Dy T t X L H cs=some out) (hok:out.ok=true):PO P lim bs w a o cs out:=by
 have bnd:∀(y:Option Operand) (Y:Option AV) (dflt:Int) (k:IntKind) (n:Int),(∀z,y=some z->∃Z,Y=some Z∧Av lim bs w Z (a.eval z))->(y=none->Y=none)->Y.getD (.int .i64 dflt)=.int k n->(y=none∧n=dflt)∨(∃z k',y=some z∧a.eval z=.int k' n):=by
  intro y Y dflt k n h1 h2 h3;cases y with
  |none=>rw [h2 rfl] at h3;cases h3;exact .inl ⟨rfl,rfl⟩
  |some z=>
   obtain ⟨Z,rfl,hz⟩:=h1 z rfl;simp only [Option.getD_some] at h3;subst h3;have:=hz.r;rw [AV.R] at this;exact .inr ⟨z,k,rfl,this⟩
 have key:∀(isS:Bool) (len cap:Nat) (A B:Int),((lo=none∧A=0)∨(∃z k',lo=some z∧a.eval z=.int k' A))->((hi=none∧B=len)∨(∃z k',hi=some z∧a.eval z=.int k' B))->0<=A->A<=B->B<=len->len<=cap->
   (Instr.sliceBounds isS len cap (lo.map a.eval) (hi.map a.eval) none).run P w=.ok (A.toNat,B.toNat,cap) w:=by
  intro isS len cap A B h1 h2 h3 h4 h5 h6;have hsb:∀(k:IntKind) (n:Int) (y:Nat) (c:BoundsCode),0<=n->n<=y->(Instr.sliceBound (.int k n) y c).run P w=.ok n.toNat w:=by intro k n y c g1 g2;simp [Instr.sliceBound,asIntOf,g1,g2]
  have hB:((B.toNat:Nat):Int)=B:=oM;rcases h1 with ⟨rfl,rfl⟩|⟨z,k,rfl,e1⟩
  ·rcases h2 with ⟨rfl,rfl⟩|⟨z',k',rfl,e2⟩
   ·simp [Instr.sliceBounds]
   ·simp only [Instr.sliceBounds,Option.map_some,Option.map_none,e2,Sem.run_bind,Sem.run_pure,Result.andThen_ok];rw [hsb k' B cap _ oM oM];rfl
  ·rcases h2 with ⟨rfl,rfl⟩|⟨z',k',rfl,e2⟩
   ·simp only [Instr.sliceBounds,Option.map_some,Option.map_none,e1,Sem.run_bind,Sem.run_pure,Result.andThen_ok];rw [hsb k A len _ h3 h4];rfl
   ·simp only [Instr.sliceBounds,Option.map_some,Option.map_none,e1,e2,Sem.run_bind,Sem.run_pure,Result.andThen_ok];rw [hsb k' B cap _ oM oM];simp only [Result.andThen_ok,Sem.run_bind];rw [hsb k A B.toNat _ h3 oM];rfl
 unfold Dy at h;split at h
 ·rename_i s;split at h
  ·rename_i k A hA;split at h
   ·rename_i k' B hB;have:=dG h;subst this;obtain ⟨⟨⟨h0,h1⟩,h2⟩,rfl⟩:((0<=A∧A<=B)∧B<=s.size)∧t=9:=by simpa using hok
    have e1:=hx.r;rw [AV.R] at e1;have hb:=key false s.size s.size A B (bnd lo L 0 _ A hL hL0 hA) (bnd hi H _ _ B hH hH0 hB) h0 h1 h2 (Nat.le_refl _);refine ⟨rfl,rfl,rfl,.string (s.extract A.toNat B.toNat),?_,by rw [AV.R]⟩;unfold execOp;simp only [ho,e1,Instr.sliceAt,Instr.slice,Sem.run_bind,run_underlying HT.str,Result.andThen_ok,Option.map_none,hb,Option.isSome_none,Bool.false_eq_true,if_false,Sem.run_pure]
   ·cases h
  ·cases h
 ·rename_i V hV;split at h
  ·cases h
  ·rename_i e d he;split at h
   ·cases h
   ·rename_i n l hl;split at h
    ·rename_i k A hA;split at h
     ·rename_i k' B hB;have:=dG h;subst this;obtain ⟨⟨h0,h1⟩,h2⟩:(0<=A∧A<=B)∧B<=n:=by simpa using hok
      obtain ⟨ad,c,e1,e2,e3,e4⟩:=yY hx hl;obtain ⟨hu,hT2⟩:=pO HT he;obtain ⟨i,z,hi2,hs,-⟩:=HT.info e d hT2;have hb:=key true n c A B (bnd lo L 0 _ A hL hL0 hA) (bnd hi H _ _ B hH hH0 hB) h0 h1 h2 e2;refine ⟨rfl,rfl,qB (nI e3),.slice (if c=A.toNat then ad else ad.map (·.add (A.toNat*d.size))) (B.toNat-A.toNat) (c-A.toNat),?_,?_⟩
      ·unfold execOp;simp only [ho,e1,Instr.sliceAt,Instr.slice,Sem.run_bind,run_underlying hu,Result.andThen_ok,Option.map_none,hb,run_sizeOf hi2,hs,Sem.run_pure]
      ·show AV.R lim bs w (.sl _ _) _;rw [AV.R];refine ⟨_,_,rfl,oM,?_⟩;rcases e4 with e4|⟨b,o',rfl,f1,f2,f3⟩
       ·left;rw [e4];simp
       ·by_cases hg:l.length<=A.toNat*d.size
        ·left;rw [List.drop_eq_nil_of_le hg];simp
        by_cases hc:c=A.toNat
        ·left;have:B.toNat-A.toNat=0:=oM;rw [this];simp
        ·rw [if_neg hc];right;refine ⟨b,o'+A.toNat*d.size,by simp [add_mid],f1,?_,Hm (BM f3)⟩;rw [List.length_take,List.length_drop];have:min ((B.toNat-A.toNat)*d.size) (l.length-A.toNat*d.size)<=l.length-A.toNat*d.size:=Nat.min_le_right _ _;omega
     ·cases h
    ·cases h
theorem aen (HT:kN P T) {c:Call} {x:Operand} {X:AV} (ho:o.op=.call c) (hc:c.callee=.builtin .len) (ha:c.args=#[x]) (hx:Av lim bs w X (a.eval x)) (h:Ut T c.argTypes.toList X cs=some out) (hok:out.ok=true):PO P lim bs w a o cs out:=by
 obtain ⟨cb,hres⟩:∃cb,(resolve a.eval c o.type).run P w=.ok {target:=.builtin .len c.argTypes o.type cb,args:=#[a.eval x]} w:=⟨_,by simp [resolve,hc,ha];rfl⟩;unfold Ut at h;split at h
 ·rename_i t ht;have hat:c.argTypes[0]?=some t:=by
   have:c.argTypes.toList[0]?=some t:=by rw [ht];rfl
   simpa using this
  split at h
  ·rename_i s;have:=dG h;subst this;have ht9:t=9:=by simpa using hok
   subst ht9;have e1:=hx.r;rw [AV.R] at e1;refine ⟨rfl,rfl,rfl,.int .i64 s.size,?_,by rw [AV.R]⟩;unfold execOp;simp only [ho,Sem.run_bind,hres,Result.andThen_ok,invoke,builtin,Builtin.len_,hat];simp [e1,run_underlying HT.str,goInt]
  ·rename_i bi be bz n;have:=dG h;subst this;obtain ⟨⟨e,d⟩,he⟩:=Option.isSome_iff_exists.1 hok;obtain ⟨hu,-⟩:=pO HT he;have e1:=hx.r;rw [AV.R] at e1;obtain ⟨bb,cp,cur,f1,-,-,f2,-,f3⟩:=e1;refine ⟨rfl,rfl,rfl,.int .i64 n,?_,by rw [AV.R]⟩;unfold execOp;simp only [ho,Sem.run_bind,hres,Result.andThen_ok,invoke,builtin,Builtin.len_,hat];simp [f3,run_underlying hu,goInt]
  ·split at h
   ·cases h
   ·rename_i n l hl;have:=dG h;subst this;obtain ⟨⟨e,d⟩,he⟩:=Option.isSome_iff_exists.1 hok;obtain ⟨hu,-⟩:=pO HT he;obtain ⟨ad,cp,e1,-⟩:=yY hx hl;refine ⟨rfl,rfl,rfl,.int .i64 n,?_,by rw [AV.R]⟩;unfold execOp;simp only [ho,Sem.run_bind,hres,Result.andThen_ok,invoke,builtin,Builtin.len_,hat];simp [e1,run_underlying hu,goInt]
 ·cases h
theorem YE {mx:Bool} {c:Call} {x y:Operand} {X Y V:AV} (ho:o.op=.call c) (hc:c.callee=.builtin (if mx=true then .max else .min)) (ha:c.args=#[x,y]) (hx:Av lim bs w X (a.eval x)) (hy:Av lim bs w Y (a.eval y)) (h:GK mx X Y=some V):PO P lim bs w a o cs ⟨V,cs,[],true⟩:=by
 unfold GK at h;split at h
 ·rename_i k A k' B;split at h
  ·rename_i hk;subst hk;cases h;have e1:=hx.r;have e2:=hy.r;rw [AV.R] at e1;rw [AV.R] at e2;refine ⟨rfl,rfl,rfl,_,?_,by rw [AV.R]⟩;unfold execOp;cases mx
   ·simp [ho,resolve,hc,ha,invoke,builtin,Builtin.min_,Builtin.min2,e1,e2]
   ·simp [ho,resolve,hc,ha,invoke,builtin,Builtin.max_,Builtin.max2,e1,e2]
  ·cases h
 ·cases h
theorem aap {f:FuncId} {first cap:Array Operand} {X:List AV} (ho:o.op=.makeFunc (.func f) first cap) (hf:first.size=0) (hx:AV.Rs lim bs w X (cap.toList.map a.eval)) (hfl:AV.ak X=true) (h:yes (.fn f X) cs=some out):PO P lim bs w a o cs out:=by
 have:=ji h;subst this;have h0:first=#[]:=Array.eq_empty_of_size_eq_zero hf
 subst h0;refine ⟨rfl,rfl,hfl,.func (.func f) #[] (cap.map a.eval),?_,?_⟩
 ·unfold execOp;simp [ho,Instr.makeFunc]
 ·show AV.R lim bs w (.fn f X) _;rw [AV.R];exact ⟨_,rfl,by simpa using hx⟩
theorem gX {α:Type}:∀(l:List α) (o:Nat),setAt l o []=l
 |[],o=>by rw [setAt]
 |x::l,0=>by rw [setAt]
 |x::l,o+1=>by rw [setAt,gX l o]
theorem vS {α:Type}:∀(l:List α) (o:Nat) (vs:List α),(setAt l o vs).length=l.length
 |[],o,vs=>by rw [setAt]
 |x::l,0,[]=>by rw [setAt]
 |x::l,0,v::vs=>by rw [setAt,List.length_cons,List.length_cons,vS l 0 vs]
 |x::l,o+1,vs=>by rw [setAt,List.length_cons,List.length_cons,vS l o vs]
theorem iZ {α:Type} (x v:α) (l vs:List α):setAt (x::l) 0 (v::vs)=v::setAt l 0 vs:=by rw [setAt]
theorem gH {α:Type} (x:α) (l vs:List α) (o:Nat):setAt (x::l) (o+1) vs=x::setAt l o vs:=by rw [setAt]
theorem zG {α:Type}:∀(l:List α) (o:Nat) (v:α) (vs:List α),o<l.length->setAt (l.set o v) (o+1) vs=setAt l o (v::vs)
 |[],o,v,vs,h=>by simp at h
 |x::l,0,v,vs,h=>by rw [List.set_cons_zero,gH,iZ]
 |x::l,o+1,v,vs,h=>by rw [List.set_cons_succ,gH,gH,zG l o v vs (by simpa using h)]
theorem foldl_set (off:Nat):∀(xs:List Value) (k:Nat) (V:Array Value),off+k+xs.length<=V.size->
  ((xs.zipIdx k).foldl (fun (cs:Array Value) x=>cs.setIfInBounds (off+x.2) x.1) V).toList=setAt V.toList (off+k) xs
 |[],k,V,h=>by simp [gX]
 |x::xs,k,V,h=>by rw [List.length_cons] at h;rw [List.zipIdx_cons,List.foldl_cons,foldl_set off xs (k+1) _ (by simp;omega)];simp only [Array.toList_setIfInBounds];rw [←zG V.toList (off+k) x xs (by simp;omega)];rfl
theorem Ey (xs:Array Value) (off:Nat) (V:Array Value) (h:off+xs.size<=V.size):
  (xs.zipIdx.foldl (fun (cs:Array Value) (c,j)=>cs.setIfInBounds (off+j) c) V).toList=setAt V.toList off xs.toList:=by
 have e:xs.zipIdx=(xs.toList.zipIdx 0).toArray:=by rw [←Array.toList_inj];simp
 rw [e,List.foldl_toArray];have:=foldl_set off xs.toList 0 V (by simpa using h);rw [Nat.add_zero] at this;exact this
theorem vL:∀{l:List AV} {c:List Value} {o:Nat} {x:List AV} {u:List Value},AV.Rs lim bs w l c->AV.Rs lim bs w x u->AV.Rs lim bs w (setAt l o x) (setAt c o u)
 |[],c,o,x,u,h,h2=>by rw [AV.Rs] at h;subst h;rw [setAt,setAt,AV.Rs]
 |y::l,c,0,[],u,h,h2=>by rw [AV.Rs] at h2;subst h2;rw [gX,gX];exact h
 |y::l,c,0,z::x,u,h,h2=>by rw [AV.Rs] at h h2;obtain ⟨v,r,rfl,h3,h4⟩:=h;obtain ⟨v',r',rfl,h5,h6⟩:=h2;rw [iZ,iZ,AV.Rs];exact ⟨v',_,rfl,h5,vL h4 h6⟩
 |y::l,c,o+1,x,u,h,h2=>by rw [AV.Rs] at h;obtain ⟨v,r,rfl,h3,h4⟩:=h;rw [gH,gH,AV.Rs];exact ⟨v,_,rfl,h3,vL h4 h2⟩
theorem rq:∀{l:List AV} {o:Nat} {x:List AV},AV.ak l=true->AV.ak x=true->AV.ak (setAt l o x)=true
 |[],o,x,h,h2=>by rw [setAt];exact h
 |y::l,0,[],h,h2=>by rw [gX];exact h
 |y::l,0,z::x,h,h2=>by rw [AV.ak,Bool.and_eq_true] at h h2;rw [iZ,AV.ak,h2.1,rq h.2 h2.2];rfl
 |y::l,o+1,x,h,h2=>by rw [AV.ak,Bool.and_eq_true] at h;rw [gH,AV.ak,h.1,rq h.2 h2];rfl
theorem sZ:∀{l:List AV} {o:Nat} {x:List AV},l.all AV.top=true->x.all AV.top=true->(setAt l o x).all AV.top=true
 |[],o,x,h,h2=>by rw [setAt];exact h
 |y::l,0,[],h,h2=>by rw [gX];exact h
 |y::l,0,z::x,h,h2=>by rw [List.all_cons,Bool.and_eq_true] at h h2;rw [iZ,List.all_cons,h2.1,sZ h.2 h2.2];rfl
 |y::l,o+1,x,h,h2=>by rw [List.all_cons,Bool.and_eq_true] at h;rw [gH,List.all_cons,h.1,sZ h.2 h2];rfl
theorem jN:∀{l:List AV},AV.ak l=true->l.all AV.top=true
 |[],_=>rfl
 |x::l,h=>by rw [AV.ak,Bool.and_eq_true] at h;rw [List.all_cons,jN h.2,AV.top,h.1];simp
theorem BD {v:AV} {u:Value} (h1:dI (cells v)=true) (h:AV.R lim bs w v u):AV.Rs lim bs w (cells v) u.cells.toList:=by
 cases v with
 |agg l=>rw [AV.R] at h;obtain ⟨vs,rfl,h2⟩:=h;exact h2
 |bool b=>rw [AV.R] at h;subst h;rw [cells,AV.Rs];exact ⟨_,[],rfl,by rw [AV.R],by rw [AV.Rs]⟩;intros;simp_all
 |int k n=>rw [AV.R] at h;subst h;rw [cells,AV.Rs];exact ⟨_,[],rfl,by rw [AV.R],by rw [AV.Rs]⟩;intros;simp_all
 |str s=>rw [AV.R] at h;subst h;rw [cells,AV.Rs];exact ⟨_,[],rfl,by rw [AV.R],by rw [AV.Rs]⟩;intros;simp_all
 |nil=>rw [AV.R] at h;subst h;rw [cells,AV.Rs];exact ⟨_,[],rfl,by rw [AV.R],by rw [AV.Rs]⟩;intros;simp_all
 |bad=>cases h1
 |bX l=>cases h1
 |nz k=>have h':=h;rw [AV.R] at h';obtain ⟨n,-,rfl⟩:=h';rw [cells,AV.Rs];exact ⟨_,[],rfl,h,by rw [AV.Rs]⟩;intros;simp_all
 |nP k=>have h':=h;rw [AV.R] at h';obtain ⟨n,rfl⟩:=h';rw [cells,AV.Rs];exact ⟨_,[],rfl,h,by rw [AV.Rs]⟩;intros;simp_all
 |low k d m=>have h':=h;rw [AV.R] at h';obtain ⟨n,-,rfl⟩:=h';rw [cells,AV.Rs];exact ⟨_,[],rfl,h,by rw [AV.Rs]⟩;intros;simp_all
 |bU i e z n=>have h':=h;rw [AV.R] at h';obtain ⟨b,c,cur,-,-,-,-,-,rfl⟩:=h';rw [cells,AV.Rs];exact ⟨_,[],rfl,h,by rw [AV.Rs]⟩;intros;simp_all
 |ptr i o=>have h':=h;rw [AV.R] at h';obtain ⟨b,-,rfl⟩:=h';rw [cells,AV.Rs];exact ⟨_,[],rfl,h,by rw [AV.Rs]⟩;intros;simp_all
 |el l=>have h':=h;rw [AV.R] at h';obtain ⟨b,o',rfl,-⟩:=h';rw [cells,AV.Rs];exact ⟨_,[],rfl,h,by rw [AV.Rs]⟩;intros;simp_all
 |sl n l=>have h':=h;rw [AV.R] at h';obtain ⟨b,o',rfl,-⟩:=h';rw [cells,AV.Rs];exact ⟨_,[],rfl,h,by rw [AV.Rs]⟩;intros;simp_all
 |fn f c=>have h':=h;rw [AV.R] at h';obtain ⟨vs,rfl,-⟩:=h';rw [cells,AV.Rs];exact ⟨_,[],rfl,h,by rw [AV.Rs]⟩;intros;simp_all
 |row e z n l=>
  have h':=h;rw [AV.R] at h';obtain ⟨-,-,h3⟩:=h';have hu:u.cells.toList=[u]:=by rcases h3 with ⟨rfl,-⟩|⟨g,c,cur,rfl,-⟩<;>rfl
  rw [hu,cells,AV.Rs];exact ⟨_,[],rfl,h,by rw [AV.Rs]⟩
  intros;simp_all
theorem YI {v:AV} {u:Value} (h1:v.one=true) (h:AV.R lim bs w v u):u.oneCell'=true:=by
 cases v with
 |agg l=>cases h1
 |bad=>cases h1
 |bX l=>cases h1
 |bool b=>rw [AV.R] at h;subst h;rfl
 |int k n=>rw [AV.R] at h;subst h;rfl
 |str s=>rw [AV.R] at h;subst h;rfl
 |nil=>rw [AV.R] at h;subst h;rfl
 |nz k=>rw [AV.R] at h;obtain ⟨n,-,rfl⟩:=h;rfl
 |nP k=>rw [AV.R] at h;obtain ⟨n,rfl⟩:=h;rfl
 |low k d m=>rw [AV.R] at h;obtain ⟨n,-,rfl⟩:=h;rfl
 |bU i e z n=>rw [AV.R] at h;obtain ⟨b,c,cur,-,-,-,-,-,rfl⟩:=h;rfl
 |ptr i o=>rw [AV.R] at h;obtain ⟨b,-,rfl⟩:=h;rfl
 |el l=>rw [AV.R] at h;obtain ⟨b,o',rfl,-⟩:=h;rfl
 |sl n l=>rw [AV.R] at h;obtain ⟨b,o',rfl,-⟩:=h;rfl
 |fn f c=>rw [AV.R] at h;obtain ⟨vs,rfl,-⟩:=h;rfl
 |row e z n l=>
  rw [AV.R] at h;obtain ⟨-,-,h3⟩:=h;rcases h3 with ⟨rfl,-⟩|⟨g,c,cur,rfl,-⟩<;>rfl
theorem zL:∀{l:List AV} {c:List Value},dI l=true->AV.Rs lim bs w l c->∀v ∈ c,v.oneCell'=true
 |[],c,_,h,v,hv=>by rw [AV.Rs] at h;subst h;cases hv
 |x::l,c,h1,h,v,hv=>by
  rw [AV.Rs] at h;rw [dI,Bool.and_eq_true] at h1;obtain ⟨u,r,rfl,h2,h3⟩:=h;rcases List.mem_cons.1 hv with rfl|hv
  ·exact YI h1.1 h2
  ·exact zL h1.2 h3 v hv
inductive Ps (lim:Nat->Nat) (bs:List Nat) (w:World):List (Nat×AV)->List (Nat×Value)->Prop
 |nil:Ps lim bs w [] []
 |cons {i:Nat} {x:AV} {u:Value} {ps:List (Nat×AV)} {vs:List (Nat×Value)} (h:Av lim bs w x u) (hr:Ps lim bs w ps vs):Ps lim bs w ((i,x.bY)::ps) ((i,u)::vs)
theorem abJ {iG:List (Nat×Nat×Bool)} {place:Nat->Option (Nat×Nat)} (hp:∀(i:Nat) (q:Nat×Nat×Bool),iG[i]?=some q->place i=some (q.1,q.2.1)):
  ∀{ps:List (Nat×AV)} {vs:List (Nat×Value)} {c:List AV} {V:Array Value} {l:List AV},Ps lim bs w ps vs->AV.Rs lim bs w c V.toList->AV.ak c=true->mH iG c ps=some l->∃V',Instr.fill place V vs=some V'∧AV.Rs lim bs w l V'.toList∧AV.ak l=true:=by
 intro ps vs c V l hps
 induction hps generalizing c V l with
 |nil=>intro hc hf h;rw [mH] at h;cases h;exact ⟨V,rfl,hc,hf⟩
 |@cons i x u ps vs hx hr ih=>
  intro hc hf h;rw [mH] at h;split at h
  ·cases h
  ·rename_i o' n b hq;split at h
   ·rename_i hk;obtain ⟨h1,h2,h3,h4⟩:=hk;have hcells:=BD h4 hx.r.bY;have hlen:=AV.fB hcells;have hsz:u.cells.size=n:=by
     have:u.cells.toList.length=n:=by rw [hlen,h1]
     simpa using this
    have hVl:V.size=c.length:=by have:=AV.fB hc;simpa using this
    have hfl:AV.ak (cells x.bY)=true:=by
     have:∀y:AV,y.flat=true->AV.ak (cells y)=true:=by
      intro y hy;cases y<;>first
       |(show AV.ak [_]=true;rw [AV.ak,hy];rfl)
       |exact hy
     exact this _ h3
    have JP:=Ey u.cells o' V oM;obtain ⟨V',e1,e2,e3⟩:=ih (V:=u.cells.zipIdx.foldl (fun (cs:Array Value) (c,j)=>cs.setIfInBounds (o'+j) c) V) (by rw [JP];exact vL hc hcells) (rq hf hfl) h;refine ⟨V',?_,e2,e3⟩;rw [Instr.fill,hp i _ hq];simp only [];rw [if_neg (by simp [hsz];omega)];exact e1
   ·cases h
theorem VK (HT:kN P T) {t:Nat} {d:TD} {ps:Array (Nat×Operand)} {X:List (Nat×AV)} (ho:o.op=.build t ps) (ht:T t=some d) (hx:Ps lim bs w X (ps.toList.map fun p=>(p.1,a.eval p.2))) (h:vH d X cs=some out) (hok:out.ok=true):PO P lim bs w a o cs out:=by
 unfold vH at h;split at h
 ·cases h
 ·rename_i l hl;have:=dG h;subst this;obtain ⟨ha,hfl⟩:d.agg=true∧AV.ak l=true:=by simpa using hok
  obtain ⟨fs,hu,hn,hf⟩:=HT.fld t d ht ha;obtain ⟨i,z,hi,hs,hby,hz,hzc,Y1⟩:=HT.info t d ht;have hzn:=H7 (lim:=lim) (bs:=bs) (w:=w) Y1;obtain ⟨pl,agI⟩:∃pl:Field->Sem (Nat×Nat),pl=fun f=>(do pure (f.offset,←sizeOf f.type):Sem (Nat×Nat)):=⟨_,rfl⟩;have hpl:∀(f:Field) (i:TypeInfo),P.info? f.type=some i->(pl f).run P w=.ok (f.offset,((P.info? f.type).map (·.size)).getD 0) w:=by intro f i hi;rw [agI];simp only [Sem.run_bind,run_sizeOf hi w,Result.andThen_ok,Sem.run_pure,hi,Option.map_some,Option.getD_some]
  have WH:∀(fl:List Field),(∀f ∈ fl,∃i,P.info? f.type=some i)->(fl.mapM pl).run P w=.ok (fl.map fun f=>(f.offset,((P.info? f.type).map (·.size)).getD 0)) w:=by
   intro fl
   induction fl with
   |nil=>intro _;rfl
   |cons f fl ih=>
    intro hh;obtain ⟨i,hi⟩:=hh f List.mem_cons_self;have h2:=ih (fun g hg=>hh g (List.mem_cons_of_mem _ hg));simp only [List.mapM_cons,Sem.run_bind,hpl f i hi,h2,Result.andThen_ok,Sem.run_pure,List.map_cons]
  have hall:∀f ∈ fs.toList,∃i,P.info? f.type=some i:=by
   intro f hf2;obtain ⟨k,hk,rfl⟩:=List.getElem_of_mem hf2;have hk2:k<d.iG.length:=by rw [←hn];simpa using hk
   obtain ⟨fl,i,u,g1,g2,g3,-⟩:=hf k (d.iG[k]) (List.getElem?_eq_getElem hk2);have:fs[k]?=some (fs.toList[k]):=by simp
   rw [this] at g1;cases g1;exact ⟨i,g3⟩
  have Y4:(fs.mapM pl).run P w=.ok ((fs.toList.map fun f=>(f.offset,((P.info? f.type).map (·.size)).getD 0)).toArray) w:=by rw [Array.mapM_eq_mapM_toList,map_eq_pure_bind,Sem.run_bind,WH fs.toList hall];rfl
  rw [agI] at Y4;have hp:∀(i:Nat) (q:Nat×Nat×Bool),d.iG[i]?=some q->((fs.toList.map fun f=>(f.offset,((P.info? f.type).map (·.size)).getD 0)).toArray[·]?) i=some (q.1,q.2.1):=by
   intro k q hq;obtain ⟨fl,i,u,g1,g2,g3,g4,-⟩:=hf k q hq;have g5:fs.toList[k]?=some fl:=by simpa using g1
   simp [g1,g2,g3,g4]
  obtain ⟨V',e1,e2,e3⟩:=abJ hp hx (V:=z.cells) hzn.1 hzn.2 hl;refine ⟨rfl,rfl,hfl,.agg V',?_,by rw [AV.R];exact ⟨_,rfl,e2⟩⟩;unfold execOp;have hzv:(zeroValue t).run P w=.ok z w:=by simp [zeroValue,typeInfo,hi,hz]
  simp only [ho,Instr.build,Sem.run_bind,hzv,Sem.run_pure,Result.andThen_ok,run_underlying hu,Y4,Array.toList_map,e1]
end Ab
namespace Ab
variable {lim lim' : Nat -> Nat} {bs bs' : List Nat} {w w' : World} {P : Program} {T : jL} {a : Act} {o : Oper} {cs : List (List AV)} {out : Out} {m : Nat -> Prop} {bx bx' : List (List AV)} {S S' : rE} {K : Act -> World -> Prop} {Q : Exit -> Act -> World -> Prop} {cal : xR} {σ σ' : aJ}
structure Hu (m:Nat->Prop) (lim:Nat->Nat) (bs:List Nat) (w:World) (a:Act) (σ':aJ) (lim':Nat->Nat) (bs':List Nat) (w':World) (a':Act):Prop where
 hold:aM lim' bs' w' σ'.bx (Sl σ'.tm a') m
 fr:Fr m lim w lim' w'
 pre:∀(i b:Nat),bs[i]?=some b->bs'[i]?=some b
 nt:a'.tmps.size=a.tmps.size
 df:a'.defers=a.defers
abbrev vM (m:Nat->Prop) (lim:Nat->Nat) (bs:List Nat) (w:World) (a:Act) (σ':aJ) (K:Act->World->Prop):Prop:=∀lim' bs' w' a',Hu m lim bs w a σ' lim' bs' w' a'->K a' w'
theorem gp {u:Value} (h:(execOp a.eval o).run P w=.ok (.value u) w') (hK:K (a.put o.dst u) w'):o.wp P a w K Q:=by unfold Oper.wp;rw [h];exact hK
theorem ZY (h:(execOp a.eval o).run P w=.ok .skip w') (hK:K (a.put o.dst undef) w'):o.wp P a w K Q:=by unfold Oper.wp;rw [h];exact hK
theorem bL (a:Act) (d:Option Nat) (u:Value):(a.put d u).tmps.size=a.tmps.size:=by cases d<;>simp [Act.put]
theorem put_defers (a:Act) (d:Option Nat) (u:Value):(a.put d u).defers=a.defers:=by cases d<;>rfl
def U4 (S:rE) (d:Option Nat) (x:AV×Value):rE:=
 match d with
 |some d=>up S d x
 |none=>S
theorem iE {tm:Tm} {d:Option Nat} (hd:∀k,d=some k->k<a.tmps.size) (v:AV) (u:Value):Sl (dW tm d v) (a.put d u)=U4 (Sl tm a) d (v,u):=by
 cases d with
 |none=>rfl
 |some k=>exact mR (hd k rfl) v u
theorem aM.dW (H:aM lim bs w bx S m) {d:Option Nat} {v:AV} {u:Value} (hv:AV.R lim bs w v u) (ht:v.top=true)
  (hrow:∀k g,d=some k->v.isRow=true->u.ownBlock=some g->m g∧g ∉ bs∧∀p,Own w bs bx S p g->p=.t k):aM lim bs w bx (U4 S d (v,u)) m:=by
 cases d with
 |none=>exact H
 |some k=>exact H.put hv ht (fun g=>hrow k g rfl)
theorem wG (x:AV):x.bY.isRow=false:=by cases x<;>rfl
theorem sH:∀(ks:List Nat) (tm:Tm) (n:Nat),(get (eZ tm ks) n=get tm n∨get (eZ tm ks) n=(get tm n).bY)∧(n ∈ ks->(get (eZ tm ks) n).isRow=false)
 |[],tm,n=>⟨.inl rfl,fun h=>by cases h⟩
 |t::r,tm,n=>by
  have hdd:∀x:AV,x.bY.bY=x.bY:=fun x=>by cases x<;>rfl
  rw [eZ];split
  ·rename_i e z k l hrow;have ih:=sH r (put tm t (.sl k l)) n;have hp:=ah tm t (.sl k l) n;by_cases h:n=t
   ·subst h;rw [if_pos rfl] at hp;rw [hp] at ih;have h1:get (eZ (put tm n (.sl k l)) r) n=(get tm n).bY:=by
     rw [hrow];rcases ih.1 with h|h
     ·exact h
     ·exact h
    exact ⟨.inr h1,fun _=>by rw [h1];exact wG _⟩
   ·rw [if_neg h] at hp;rw [hp] at ih;exact ⟨ih.1,fun hm=>ih.2 (by rcases List.mem_cons.1 hm with e|e;exact absurd e h;exact e)⟩
  ·rename_i hno;have ih:=sH r tm n;refine ⟨ih.1,fun hm=>?_⟩;rcases List.mem_cons.1 hm with e|e
   ·subst e;have hr:(get tm n).isRow=false:=by
     cases hx:get tm n<;>first|rfl|exact absurd hx (hno _ _ _ _)
    rcases ih.1 with h|h
    ·rw [h];exact hr
    ·rw [h];exact wG _
   ·exact ih.2 e
theorem uS (H:aM lim bs w bx (Sl σ.tm a) m) (ks:List Nat):aM lim bs w bx (Sl (eZ σ.tm ks) a) m∧(∀p g,Own w bs bx (Sl (eZ σ.tm ks) a) p g->Own w bs bx (Sl σ.tm a) p g)∧∀t g,t ∈ ks->¬Own w bs bx (Sl (eZ σ.tm ks) a) (.t t) g:=by have h:=H.sub (S':=Sl (eZ σ.tm ks) a) (fun k=>⟨rfl,(sH ks σ.tm k).1.elim .inl (fun h=> .inr (.inl h))⟩);refine ⟨h.1,h.2,fun t g ht ho=>?_⟩;have:=(sH ks σ.tm t).2 ht;have h1:(get (eZ σ.tm ks) t).isRow=true:=ho.1;rw [this] at h1;cases h1
theorem aK (bx:List (List AV)) (cs:List (List AV)):aB bx [] cs=bx:=by unfold aB;rfl
theorem eG (H:aM lim bs w σ.bx (Sl σ.tm a) m) (hd:∀k,o.dst=some k->k<a.tmps.size) (h:PO P lim bs w a o cs out) (gv:List Nat) (hK:vM m lim bs w a (fin o.dst out [] gv σ) K):o.wp P a w K Q:=by obtain ⟨u,h1,h2⟩:=h.run;refine gp h1 (hK lim bs w _ ⟨?_,Fr.refl,fun _ _ h=>h,bL _ _ _,put_defers _ _ _⟩);have hr:out.v.isRow=false:=kZ h.fl;unfold fin;rw [h.nw];show aM lim bs w (aB σ.bx [] out.bs++[]) (Sl (dW (eZ σ.tm gv) o.dst out.v) (a.put o.dst u)) m;rw [List.append_nil,aK,iE hd];exact (uS H gv).1.dW h2 (by rw [AV.top,h.fl];simp) (fun k g _ hh=>by rw [hr] at hh;cases hh)
theorem Fb (H:aM lim bs w σ.bx (Sl σ.tm a) m) (hd:∀k,o.dst=some k->k<a.tmps.size) {x:Operand} {v:AV} (ho:o.op=.move x∨o.op=.assign x) (hv:AV.R lim bs w v (a.eval x)) (ht:v.top=true)
  (hsrc:v.isRow=true->(∃t,x=.tmp t∧v=get σ.tm t)∨(a.eval x).ownBlock=none) (hK:vM m lim bs w a (fin o.dst ⟨v,cs,[],true⟩ [] (eP x) σ) K):o.wp P a w K Q:=by
 have hrun:(execOp a.eval o).run P w=.ok (.value (a.eval x)) w:=by unfold execOp;rcases ho with ho|ho<;>simp only [ho]<;>rfl
 refine gp hrun (hK lim bs w _ ⟨?_,Fr.refl,fun _ _ h=>h,bL _ _ _,put_defers _ _ _⟩);show aM lim bs w (aB σ.bx [] cs++[]) (Sl (dW (eZ σ.tm (eP x)) o.dst v) (a.put o.dst (a.eval x))) m;rw [List.append_nil,aK,iE hd];obtain ⟨H2,h3,h4⟩:=uS H (eP x);refine H2.dW hv ht (fun k g _ hr hg=>?_);rcases hsrc hr with ⟨t,rfl,hvt⟩|hn
 ·have ho1:Own w bs σ.bx (Sl σ.tm a) (.t t) g:=⟨by show (get σ.tm t).isRow=true;rw [←hvt];exact hr,hg⟩;refine ⟨(H.own _ _ ho1).1,(H.own _ _ ho1).2,fun p hp=>?_⟩;have:=H.nK p (.t t) g (h3 p g hp) ho1;subst this;exact absurd hp (h4 t g (by simp [eP]))
 ·rw [hn] at hg;cases hg
theorem Lm {H:aM lim bs w bx S m} (src:Loc->Loc) (h1:∀p g,Own w' bs' bx' S' p g->Own w bs bx S (src p) g) (h2:∀p q g,Own w' bs' bx' S' p g->Own w' bs' bx' S' q g->src p=src q->p=q):
  (∀p g,Own w' bs' bx' S' p g->m g∧g ∉ bs)∧(∀p q g,Own w' bs' bx' S' p g->Own w' bs' bx' S' q g->p=q):=
 ⟨fun p g hp=>H.own _ g (h1 p g hp),fun p q g hp hq=>h2 p q g hp hq (H.nK _ _ g (h1 p g hp) (h1 q g hq))⟩
theorem FE {bx:List (List AV)} {i:Nat} {cs:List (List AV)} (h:bn bx [i]=some cs):∃c,bx[i]?=some c∧cs=[c]:=by
 unfold bn at h;split at h
 ·rename_i c cs' hc hcs;unfold bn at hcs;cases hcs;cases h;exact ⟨c,hc,rfl⟩
 ·cases h
theorem qQ (bx:List (List AV)) (i:Nat) (c:List AV):aB bx [i] [c]=bx.set i c:=by rw [aB,aK]
theorem qi {α:Type} {l:List α} {i:Nat} {c:α} (h:l[i]?=some c):l.set i c=l:=by
 apply List.ext_getElem?;intro k;rw [List.getElem?_set];split
 ·rename_i e;subst e;split
  ·exact h.symm
  ·rename_i hlt;rw [List.getElem?_eq_none oM]
 ·rfl
theorem dL {α:Type}:∀(l:List α) (o j:Nat) (vs:List α),(setAt l o vs)[j]?=if o<=j∧j<o+vs.length∧j<l.length then vs[j-o]? else l[j]?
 |[],o,j,vs=>by rw [setAt];simp
 |x::l,0,j,[]=>by rw [gX];simp
 |x::l,0,0,v::vs=>by rw [iZ];simp
 |x::l,0,j+1,v::vs=>by rw [iZ,List.getElem?_cons_succ,dL l 0 j vs];simp only [List.length_cons,List.getElem?_cons_succ,Nat.zero_le,true_and,Nat.zero_add,Nat.sub_zero,Nat.add_lt_add_iff_right]
 |x::l,o+1,0,vs=>by rw [gH];simp
 |x::l,o+1,j+1,vs=>by
  rw [gH,List.getElem?_cons_succ,dL l o j vs,List.getElem?_cons_succ];have e:j+1-(o+1)=j-o:=oM;have c:(o+1<=j+1∧j+1<o+1+vs.length∧j+1<(x::l).length)↔(o<=j∧j<o+vs.length∧j<l.length):=by rw [List.length_cons];omega
  simp only [c,e]
theorem eX:∀{l:List Nat} {i j x:Nat},l.Nodup->l[i]?=some x->l[j]?=some x->i=j
 |[],i,j,x,_,h,_=>by simp at h
 |y::l,0,0,x,_,_,_=>rfl
 |y::l,0,j+1,x,hn,h1,h2=>by rw [List.nodup_cons] at hn;simp at h1 h2;subst h1;exact absurd (List.mem_of_getElem? h2) hn.1
 |y::l,i+1,0,x,hn,h1,h2=>by rw [List.nodup_cons] at hn;simp at h1 h2;subst h2;exact absurd (List.mem_of_getElem? h1) hn.1
 |y::l,i+1,j+1,x,hn,h1,h2=>by rw [List.nodup_cons] at hn;exact congrArg (·+1) (eX (x:=x) hn.2 (by simpa using h1) (by simpa using h2))
theorem aM.Rv (H:aM lim bs w bx S m) {i b:Nat} {c c':List AV} {V' tl:List Value} {t:TypeId} (hi:bs[i]?=some b) (hc:bx[i]?=some c) (hV:w'.heap[b]?=some (.cells (V'++tl).toArray t (0,0))) (hsh:∃cur:Array Value,w.heap[b]?=some (.cells cur t (0,0))∧cur.size=(V'++tl).length) (ho:∀k,k≠b->w'.heap[k]?=w.heap[k]?) (hs:w'.heap.size=w.heap.size)
  (hR:AV.Rs lim bs w' c' V') (ht:c'.all AV.top=true) (hS:∀k,AV.R lim bs w' (S' k).1 (S' k).2∧(S' k).1.top=true)
  (src:Loc->Loc) (h1:∀p g,Own w' bs (bx.set i c') S' p g->Own w bs bx S (src p) g) (h2:∀p q g,Own w' bs (bx.set i c') S' p g->Own w' bs (bx.set i c') S' q g->src p=src q->p=q):
  aM lim bs w' (bx.set i c') S' m:=by
 obtain ⟨h3,h4⟩:=Lm (H:=H) src h1 h2;have hmem:b ∈ bs:=List.mem_of_getElem? hi;have mW:AV.Ext lim bs w lim bs w':=⟨fun _ _ h=>h,oM,fun _ _=>Nat.le_refl _,fun k j hk hj=>World.cell?_of_block (ho k (fun e=>by subst e;rw [H.free k hmem] at hj;omega)),fun k cur e p hk=>by
  by_cases hkb:k=b
  ·subst hkb;obtain ⟨Pz,q1,q2⟩:=hsh;rw [q1] at hk;cases hk;exact ⟨_,hV,by simpa using q2.symm⟩
  ·exact ⟨cur,(ho k hkb).trans hk,rfl⟩⟩
 refine ⟨by rw [List.length_set];exact H.len,H.xV,H.free,H.mb,fun i2 b2 x hi2 hx2=>?_,fun k=>(hS k).1,fun k=>(hS k).2,fun k hk=>H.top k oM,h3,h4⟩;rw [List.getElem?_set] at hx2;split at hx2
 ·rename_i e;subst e;split at hx2
  ·cases hx2;rw [hi] at hi2;cases hi2;exact ⟨V',tl,t,hV,hR,ht⟩
  ·cases hx2
 ·rename_i e;have hne:b2≠b:=by rintro rfl;exact e (eX H.xV hi hi2)
  obtain ⟨C,U5,t2,g1,g2,g3⟩:=H.box i2 b2 x hi2 hx2;refine ⟨C,U5,t2,(ho b2 hne).trans g1,mU mW g3 (fun j y v g hy hv hr hg=>?_) g2,g3⟩;have hown:Own w bs bx S (.b i2 j) g:=⟨b2,x,y,v,hi2,hx2,hy,hr,dP g1 hv,hg⟩;exact ⟨ho g (fun e=>by subst e;exact (H.own _ _ hown).2 hmem),rfl⟩
theorem Pd (HT:kN P T) (H:aM lim bs w σ.bx (Sl σ.tm a) m) (hd:∀k,o.dst=some k->k<a.tmps.size) {t:Nat} {x:Operand} {d:TD} {i o':Nat} {c:List AV} {ad:Bool} (ho:o.op=.load t x) (ht:T t=some d) (hx:AV.R lim bs w (.ptr i o') (a.eval x)) (hc:σ.bx[i]?=some c)
  (h:ou d ad (.ptr i o') [c]=some out) (hok:out.ok=true) (hdd:ad=true->o.dst.isSome=true) (hK:vM m lim bs w a (fin o.dst out [i] [] σ) K):o.wp P a w K Q:=by
 rw [AV.R] at hx;obtain ⟨b,hb,hx⟩:=hx;obtain ⟨C,tl,tt,h1,h2,h3⟩:=H.box i b c hb hc;have hcell:∀(j:Nat) (v:Value),C[j]?=some v->w.cell? ⟨b,j,none⟩=some v:=fun j v hv=>dP h1 hv;unfold ou at h;simp only [] at h;split at h
 ·rename_i ha;have:=dG h;subst this;have hl:o'+d.size<=c.length:=by simpa using hok
  have hlen:=AV.fB h2;have hrun:(execOp a.eval o).run P w=.ok (.value (.agg ((C.drop o').take d.size).toArray)) w:=by
   unfold execOp;simp only [ho,hx];have hl2:((C.drop o').take d.size).length=d.size:=by rw [List.length_take,List.length_drop];omega
   have hcc:∀(j:Nat) (v:Value),((C.drop o').take d.size)[j]?=some v->w.cell? ⟨b,o'+j,none⟩=some v:=by
    intro j v hj;rw [List.getElem?_take] at hj;split at hj
    ·rw [List.getElem?_drop] at hj;exact hcell _ v hj
    ·cases hj
   rw [Sem.run_bind,tK HT ht ha hl2 hcc];rfl
  refine gp hrun (hK lim bs w _ ⟨?_,Fr.refl,fun _ _ h=>h,bL _ _ _,put_defers _ _ _⟩);show aM lim bs w (aB σ.bx [i] [c]++[]) (Sl (dW σ.tm o.dst _) (a.put o.dst _)) m;rw [List.append_nil,qQ,qi hc,iE hd];have htop:((c.drop o').take d.size).all AV.top=true:=by rw [List.all_eq_true] at h3⊢;exact fun y hy=>h3 y (List.mem_of_mem_drop (List.mem_of_mem_take hy))
  refine H.dW ?_ ?_ (fun k g _ hh=>by cases hh)
  ·rw [AV.R];exact ⟨_,rfl,by simpa using qH (rH (wJ h2))⟩
  ·show (false||AV.ak _)=true;rw [kY htop (rH (wJ h2))];rfl
 ·rename_i ha;split at h
  ·rename_i v hv;cases h;obtain ⟨u,e1,e2⟩:=kU h2 hv;obtain ⟨ud,hu,hr,-⟩:=HT.und t d ht;have hvt:v.top=true:=by rw [List.all_eq_true] at h3;exact h3 v (List.mem_of_getElem? hv)
   have hrun:(execOp a.eval o).run P w=.ok (.value u) w:=by unfold execOp;simp only [ho,hx];rw [Sem.run_bind,tL hu (by rw [hr];simpa using ha) (hcell o' u e1)];rfl
   refine gp hrun (hK lim bs w _ ⟨?_,Fr.refl,fun _ _ h=>h,bL _ _ _,put_defers _ _ _⟩);show aM lim bs w (aB σ.bx [i] [if ad=true then setAt c o' [v.bY] else c]++[]) (Sl (dW σ.tm o.dst (if ad=true then v else v.bY)) (a.put o.dst u)) m;rw [List.append_nil,qQ,iE hd];cases ad with
   |false=>
    simp only [Bool.false_eq_true,if_false];rw [qi hc];exact H.dW e2.bY (by rw [AV.top,AV.R.oo hvt e2];simp) (fun k g _ hh=>by rw [wG] at hh;cases hh)
   |true=>
    simp only [if_true];obtain ⟨dk,hdk⟩:=Option.isSome_iff_exists.1 (hdd rfl);rw [hdk];show aM lim bs w _ (up (Sl σ.tm a) dk (v,u)) m;have hol:o'<c.length:=by
     rcases Nat.lt_or_ge o' c.length with h'|h'
     ·exact h'
     ·rw [List.getElem?_eq_none h'] at hv;cases hv
    have Y7:∀j,(setAt c o' [v.bY])[j]?=if j=o' then some v.bY else c[j]?:=by
     intro j;rw [dL];by_cases e:j=o'
     ·subst e;rw [if_pos ⟨Nat.le_refl _,by simp,hol⟩,if_pos rfl];simp
     ·rw [if_neg e,if_neg (by simp only [lL];omega)]
    have hvd:AV.R lim bs w v.bY u:=e2.bY;have hV':setAt C o' [u]=C:=by
     apply List.ext_getElem?;intro j;rw [dL];split
     ·rename_i hj;have:j=o':=by simp only [lL] at hj;omega
      subst this;simp [e1]
     ·rfl
    refine H.Rv hb hc h1 ⟨_,h1,by simp⟩ (fun _ _=>rfl) rfl ?_ ?_ ?_ (fun p=>match p with|.t k=>if k=dk then (if v.isRow=true then .b i o' else .t k) else .t k|p=>p) ?_ ?_
    ·have:=vL (o:=o') h2 (show AV.Rs lim bs w [v.bY] [u] by rw [AV.Rs];exact ⟨u,[],rfl,hvd,by rw [AV.Rs]⟩);rw [hV'] at this;exact this
    ·exact sZ h3 (by rw [List.all_cons,AV.top,AV.R.oo hvt e2];simp)
    ·intro k;unfold up;split
     ·exact ⟨e2,hvt⟩
     ·exact ⟨H.slot k,H.jm k⟩
    ·intro p g hp;cases p with
     |t k=>
      obtain ⟨p1,p2⟩:=hp;unfold up at p1 p2;by_cases e:k=dk
      ·rw [if_pos e] at p1 p2;simp only [e,if_true];have E8:v.isRow=true:=p1;rw [if_pos E8];exact ⟨b,c,v,u,hb,hc,hv,p1,hcell o' u e1,p2⟩
      ·rw [if_neg e] at p1 p2;simp only [e,if_false];exact ⟨p1,p2⟩
     |b i2 j=>
      obtain ⟨b2,x2,y2,v2,q1,q2,q3,q4,q5,q6⟩:=hp;rw [List.getElem?_set] at q2;split at q2
      ·rename_i e;subst e;split at q2
       ·cases q2;rw [Y7] at q3;split at q3
        ·cases q3;rw [wG] at q4;cases q4
        ·exact ⟨b2,c,y2,v2,q1,hc,q3,q4,q5,q6⟩
       ·cases q2
      ·exact ⟨b2,x2,y2,v2,q1,q2,q3,q4,q5,q6⟩
    ·have hno:∀g,¬Own w bs (σ.bx.set i (setAt c o' [v.bY])) (up (Sl σ.tm a) dk (v,u)) (.b i o') g:=by
      rintro g ⟨b2,x2,y2,v2,q1,q2,q3,q4,q5,q6⟩;rw [List.getElem?_set] at q2;simp only [if_true] at q2;split at q2
      ·cases q2;rw [Y7,if_pos rfl] at q3;cases q3;rw [wG] at q4;cases q4
      ·cases q2
     intro p q g hp hq he;cases p with
     |t k=>
      cases q with
      |t k2=>
       by_cases e:k=dk
       ·by_cases e2:k2=dk
        ·rw [e,e2]
        ·simp only [e,e2,if_true,if_false] at he;split at he
         ·cases he
         ·cases he;exact absurd rfl e2
       ·by_cases e2:k2=dk
        ·simp only [e,e2,if_true,if_false] at he;split at he
         ·cases he
         ·cases he;exact absurd rfl e
        ·simp only [e,e2,if_false] at he;exact he
      |b i2 j=>
       simp only [] at he;split at he
       ·split at he
        ·rw [←he] at hq;exact absurd hq (hno g)
        ·cases he
       ·cases he
     |b i2 j=>
      cases q with
      |t k2=>
       simp only [] at he;split at he
       ·split at he
        ·rw [he] at hp;exact absurd hp (hno g)
        ·cases he
       ·cases he
      |b i3 j3=>exact he
  ·cases h
theorem Aq {b:Nat} {t:TypeId}:∀(vs cur:List Value) (o:Nat) (w:World),o+vs.length<=cur.length->w.heap[b]?=some (.cells cur.toArray t (0,0))->
  (w.setCells b o vs).heap[b]?=some (.cells (setAt cur o vs).toArray t (0,0))∧(∀k,k≠b->(w.setCells b o vs).heap[k]?=w.heap[k]?)∧(w.setCells b o vs).heap.size=w.heap.size∧Below 0 w (w.setCells b o vs)
 |[],cur,o,w,hl,hb=>⟨by rw [gX];exact hb,fun _ _=>rfl,rfl,Below.refl _ _⟩
 |v::vs,cur,o,w,hl,hb=>by
  simp only [List.length_cons] at hl;have hb2:(w.setCell ⟨b,o,none⟩ v).heap[b]?=some (.cells (cur.set o v).toArray t (0,0)):=by simp [World.setCell,Array.getElem?_modify,hb]
  obtain ⟨h1,h2,h3,h4⟩:=Aq vs (cur.set o v) (o+1) _ (by simp;omega) hb2;refine ⟨?_,fun k hk=>?_,?_,?_⟩
  ·show ((w.setCell ⟨b,o,none⟩ v).setCells b (o+1) vs).heap[b]?=_;rw [h1,zG cur o v vs oM]
  ·show ((w.setCell ⟨b,o,none⟩ v).setCells b (o+1) vs).heap[k]?=_;rw [h2 k hk];exact Below.heap_setCell w ⟨b,o,none⟩ v k hk
  ·show ((w.setCell ⟨b,o,none⟩ v).setCells b (o+1) vs).heap.size=_;rw [h3];simp [World.setCell]
  ·exact ((Below.refl 0 w).setCell (p:=⟨b,o,none⟩) (Nat.zero_le _) v).trans h4
theorem kH {α:Type}:∀(l:List α) (o:Nat) (vs:List α),(setAt l o vs).length=l.length
 |[],o,vs=>by rw [setAt]
 |x::l,0,[]=>by rw [gX]
 |x::l,0,v::vs=>by rw [iZ,List.length_cons,List.length_cons,kH l 0 vs]
 |x::l,o+1,vs=>by rw [gH,List.length_cons,List.length_cons,kH l o vs]
theorem tJ {α:Type}:∀(l r:List α) (o:Nat) (vs:List α),o+vs.length<=l.length->setAt (l++r) o vs=setAt l o vs++r
 |[],r,o,vs,h=>by
  have h':vs.length=0:=by rw [List.length_nil] at h;omega
  obtain rfl:=List.eq_nil_of_length_eq_zero h';rw [gX,gX]
 |x::l,r,0,[],h=>by rw [gX,gX]
 |x::l,r,0,v::vs,h=>by rw [List.cons_append,iZ,iZ,tJ l r 0 vs (by simp at h⊢;omega),List.cons_append]
 |x::l,r,o+1,vs,h=>by rw [List.cons_append,gH,gH,tJ l r o vs (by simp at h;omega),List.cons_append]
theorem F5 {ty b o':Nat} {i:TypeInfo} {u:Value} {C:List Value} {t:TypeId} (hi:P.info? ty=some i) (hs:u.cells.size=i.size) (hb:w.heap[b]?=some (.cells C.toArray t (0,0))) (hl:o'+i.size<=C.length) (h1:∀v ∈ u.cells.toList,v.oneCell'=true):
  (Instr.storeAt ty (.pointer (some ⟨b,o',none⟩)) u).run P w=.ok () (w.setCells b o' u.cells.toList):=by
 have hth:w.there b o' u.cells.size:=fun j hj=>by
  constructor
  ·rw [jc hb];simp;omega
  ·simp [World.frozen?,hb]
 have:=run_storeVar_mid (P:=P) w b o' ty u.cells hth (by rw [hi,Option.map_some,hs]) (by rw [Array.all_eq_true_iff_forall_mem];intro v hv;exact h1 v (by simpa using hv));have e:storeVar ty ⟨b,o',none⟩ u=storeVar ty ⟨b,o',none⟩ (.agg u.cells):=rfl;simp only [Instr.storeAt,Instr.sureAddr,Sem.run_bind,Sem.run_pure,Result.andThen_ok,e,this]
def Z8 (x:Operand) (d:Loc):Loc:=
 match x with
 |.tmp k=> .t k
 |_=>d
theorem K4 (HT:kN P T) (H:aM lim bs w σ.bx (Sl σ.tm a) m) (hd:∀k,o.dst=some k->k<a.tmps.size) {t:Nat} {p x:Operand} {X:AV} {d:TD} {i o':Nat} {c:List AV} (ho:o.op=.store t p x) (ht:T t=some d) (hp:AV.R lim bs w (.ptr i o') (a.eval p)) (hx:Av lim bs w X (a.eval x)) (hsrc:X.isRow=true->∃k,x=.tmp k∧X=get σ.tm k)
  (hc:σ.bx[i]?=some c) (h:qD T t d (.ptr i o') X [c]=some out) (hok:out.ok=true) (hK:vM m lim bs w a (fin o.dst out [i] (eP x) σ) K):o.wp P a w K Q:=by
 rw [AV.R] at hp;obtain ⟨b,hb,hp⟩:=hp;obtain ⟨C,tl,tt,h1,h2,h3⟩:=H.box i b c hb hc;have hmem:b ∈ bs:=List.mem_of_getElem? hb;unfold qD at h;simp only [] at h;cases h;simp only [Bool.and_eq_true,decide_eq_true_eq] at hok;obtain ⟨⟨e1,e2⟩,e3⟩:=hok;have NR:dI (cells X)=true:=by
  cases ha:d.agg with
  |true=>rw [ha,if_pos rfl,Bool.and_eq_true] at e3;exact e3.1
  |false=>
   rw [ha,if_neg (by simp)] at e3;cases X<;>first|(show dI [_]=true;rw [dI,e3];rfl)|cases e3
 have hcells:=BD NR hx.r;have hlen:=AV.fB hcells;have am6:=AV.fB h2;obtain ⟨inf,z,hi,hs,-⟩:=HT.info t d ht;have hrun:(execOp a.eval o).run P w=.ok .skip (w.setCells b o' (a.eval x).cells.toList):=by unfold execOp;simp only [ho,hp];rw [Sem.run_bind,F5 hi (by rw [hs,←e1,←hlen];simp) h1 (by rw [hs,List.length_append];omega) (zL NR hcells)];rfl
 obtain ⟨g1,g2,g3,g4⟩:=Aq (a.eval x).cells.toList (C++tl) o' w (by rw [hlen,List.length_append];omega) h1;rw [tJ _ _ _ _ (by rw [hlen];omega)] at g1;have hfr:Fr m lim w lim (w.setCells b o' (a.eval x).cells.toList):=by
  refine ⟨g4,fun k hk hm=>⟨g2 k (fun e=>by subst e;exact hm (H.mb k hmem)),rfl⟩,fun _ _=>Nat.le_refl _,fun k j hk hj=>?_,fun k cur e p hk=>?_⟩
  ·exact World.cell?_of_block (g2 k (fun e=>by subst e;rw [H.free k hmem] at hj;omega))
  ·by_cases hkb:k=b
   ·subst hkb;rw [h1] at hk;cases hk;exact ⟨_,g1,by simp [kH]⟩
   ·exact ⟨cur,(g2 k hkb).trans hk,rfl⟩
 have mW:AV.Ext lim bs w lim bs (w.setCells b o' (a.eval x).cells.toList):=hfr.ext (fun _ _ h=>h);obtain ⟨w2,hw2⟩:∃w2,w2=w.setCells b o' (a.eval x).cells.toList:=⟨_,rfl⟩;rw [←hw2] at hrun g1 g2 g3 g4 hfr mW;have hkeep:∀k:Nat,AV.R lim bs w2 (get σ.tm k) (a.tmps.getD k undef):=fun k=>
  AV.R.mE mW (H.jm k) (fun g hg1 hg2=>⟨g2 g (fun e=>by subst e;exact (H.own (.t k) _ ⟨hg1,hg2⟩).2 hmem),rfl⟩) (H.slot k)
 refine ZY hrun (hK lim bs w2 _ ⟨?_,hfr,fun _ _ h=>h,bL _ _ _,put_defers _ _ _⟩);show aM lim bs w2 (aB σ.bx [i] [setAt c o' (cells X)]++[]) (Sl (dW (eZ σ.tm (eP x)) o.dst .bad) (a.put o.dst undef)) m;rw [List.append_nil,qQ,iE hd];obtain ⟨H2,hg3,hg4⟩:=uS H (eP x);have hstop:∀k,AV.R lim bs w2 (U4 (Sl (eZ σ.tm (eP x)) a) o.dst (.bad,undef) k).1 (U4 (Sl (eZ σ.tm (eP x)) a) o.dst (.bad,undef) k).2∧(U4 (Sl (eZ σ.tm (eP x)) a) o.dst (.bad,undef) k).1.top=true:=by
  intro k;have h1:AV.R lim bs w2 (get (eZ σ.tm (eP x)) k) (a.tmps.getD k undef)∧(get (eZ σ.tm (eP x)) k).top=true:=by
   refine ⟨?_,H2.jm k⟩;rcases (sH (eP x) σ.tm k).1 with e|e
   ·rw [e];exact hkeep k
   ·rw [e];exact (hkeep k).bY
  cases hdst:o.dst with
  |none=>exact h1
  |some dk=>
   show AV.R lim bs w2 (up _ dk (.bad,undef) k).1 (up _ dk (.bad,undef) k).2∧(up _ dk (.bad,undef) k).1.top=true;unfold up;split
   ·exact ⟨lh _,rfl⟩
   ·exact h1
 have oZ:∀k g,Own w2 bs (σ.bx.set i (setAt c o' (cells X))) (U4 (Sl (eZ σ.tm (eP x)) a) o.dst (.bad,undef)) (.t k) g->Own w bs σ.bx (Sl σ.tm a) (.t k) g∧k ∉ eP x:=by
  intro k g hp;have h1:Own w bs σ.bx (Sl (eZ σ.tm (eP x)) a) (.t k) g:=by
   cases hdst:o.dst with
   |none=>rw [hdst] at hp;exact hp
   |some dk=>
    rw [hdst] at hp;obtain ⟨p1,p2⟩:=hp;have E8:(up (Sl (eZ σ.tm (eP x)) a) dk (.bad,undef) k).1.isRow=true:=p1;have U7:(up (Sl (eZ σ.tm (eP x)) a) dk (.bad,undef) k).2.ownBlock=some g:=p2;unfold up at E8 U7;split at E8
    ·cases E8
    ·rename_i e;rw [if_neg e] at U7;exact ⟨E8,U7⟩
  exact ⟨hg3 _ _ h1,fun hk=>hg4 k g hk h1⟩
 obtain ⟨NW,hNW⟩:∃l,l=cells X:=⟨_,rfl⟩;rw [←hNW] at oZ⊢;have hNR:AV.Rs lim bs w NW (a.eval x).cells.toList:=by rw [hNW];exact hcells
 have hone:d.agg=false->cells X=[X]∧(a.eval x).cells.toList=[a.eval x]:=by
  intro ha;rw [ha,if_neg (by simp)] at e3;have hc1:cells X=[X]:=by
   cases X<;>first|rfl|cases e3
  refine ⟨hc1,?_⟩;have:=YI e3 hx.r;cases hh:a.eval x<;>first|rfl|(rw [hh] at this;cases this)
 have hNT:NW.all AV.top=true:=by
  rw [hNW];cases ha:d.agg with
  |true=>
   rw [ha,if_pos rfl,Bool.and_eq_true] at e3;exact jN e3.2
  |false=>rw [(hone ha).1,List.all_cons,hx.t];rfl
 have Zd:∀(j:Nat) (y:AV) (v:Value) (g:Nat),NW[j]?=some y->(a.eval x).cells.toList[j]?=some v->y.isRow=true->v.ownBlock=some g->j=0∧∃k,x=.tmp k∧Own w bs σ.bx (Sl σ.tm a) (.t k) g:=by
  intro j y v g hy hv hr hg;rw [hNW] at hy;cases ha:d.agg with
  |true=>
   rw [ha,if_pos rfl,Bool.and_eq_true] at e3;rw [kZ (eH e3.2 hy)] at hr;cases hr
  |false=>
   obtain ⟨u1,u2⟩:=hone ha;rw [u1] at hy;rw [u2] at hv;have hj:j=0:=by
    cases j with
    |zero=>rfl
    |succ j=>simp at hy
   subst hj;simp at hy hv;subst hy hv;obtain ⟨k,hk,hXk⟩:=hsrc hr;exact ⟨rfl,k,hk,by show (get σ.tm k).isRow=true;rw [←hXk];exact hr,by subst hk;exact hg⟩
 have ank:NW.length=(a.eval x).cells.toList.length:=(AV.fB hNR).symm;have amX:∀g,¬∃k,k ∈ eP x∧Own w2 bs (σ.bx.set i (setAt c o' NW)) (U4 (Sl (eZ σ.tm (eP x)) a) o.dst (.bad,undef)) (.t k) g:=fun g ⟨k,hk,ho⟩=>(oZ k g ho).2 hk;have abx:∀b2 j,b2≠b->w2.cell? ⟨b2,j,none⟩=w.cell? ⟨b2,j,none⟩:=fun b2 j hne=>World.cell?_of_block (g2 b2 hne);have hcell:∀i2 j g,Own w2 bs (σ.bx.set i (setAt c o' NW)) (U4 (Sl (eZ σ.tm (eP x)) a) o.dst (.bad,undef)) (.b i2 j) g->
   (i2=i∧j=o'∧0<NW.length∧∃k,x=.tmp k∧Own w bs σ.bx (Sl σ.tm a) (.t k) g)∨(¬(i2=i∧o'<=j∧j<o'+NW.length)∧Own w bs σ.bx (Sl σ.tm a) (.b i2 j) g):=by
  rintro i2 j g ⟨b2,x2,y2,v2,q1,q2,q3,q4,q5,q6⟩;rw [List.getElem?_set] at q2;split at q2
  ·rename_i e;subst e;split at q2
   ·cases q2;rw [hb] at q1;cases q1;have hjc:j<C.length:=by have:=(List.getElem?_eq_some_iff.1 q3).1;rw [kH] at this;omega
    have q5':(setAt C o' (a.eval x).cells.toList)[j]?=some v2:=by rw [jc g1,List.getElem?_append_left (by rw [kH];exact hjc)] at q5;exact q5
    rw [dL] at q3 q5';by_cases hr:o'<=j∧j<o'+NW.length
    ·have hjl:j<c.length:=oM;rw [if_pos ⟨hr.1,hr.2,hjl⟩] at q3;rw [if_pos ⟨hr.1,oM,oM⟩] at q5';obtain ⟨hj0,k,hk,hown⟩:=Zd (j-o') y2 v2 g q3 q5' q4 q6;exact .inl ⟨rfl,oM,oM,k,hk,hown⟩
    ·rw [if_neg oM] at q3;rw [if_neg oM] at q5';exact .inr ⟨fun hh=>hr ⟨hh.2.1,hh.2.2⟩,b,c,y2,v2,hb,hc,q3,q4,dP h1 q5',q6⟩
   ·cases q2
  ·rename_i e;have hne:b2≠b:=fun hh=>e (by subst hh;exact eX H.xV hb q1);exact .inr ⟨fun hh=>e hh.1.symm,b2,x2,y2,v2,q1,q2,q3,q4,by rw [←abx b2 j hne];exact q5,q6⟩
 have hcx:∀(j:Nat) (y:AV) (v:Value) (g:Nat),c[j]?=some y->C[j]?=some v->y.isRow=true->v.ownBlock=some g->w2.heap[g]?=w.heap[g]?∧lim g=lim g:=by intro j y v g hy hv hr hg;have hown:Own w bs σ.bx (Sl σ.tm a) (.b i j) g:=⟨b,c,y,v,hb,hc,hy,hr,dP h1 hv,hg⟩;exact ⟨g2 g (fun e=>by subst e;exact (H.own _ _ hown).2 hmem),rfl⟩
 have hNx:AV.Rs lim bs w2 NW (a.eval x).cells.toList:=by refine mU mW hNT (fun j y v g hy hv hr hg=>?_) hNR;obtain ⟨-,k,-,hown⟩:=Zd j y v g hy hv hr hg;exact ⟨g2 g (fun e=>by subst e;exact (H.own _ _ hown).2 hmem),rfl⟩
 refine H.Rv hb hc g1 ⟨_,h1,by simp [kH]⟩ g2 g3 (vL (mU mW h3 hcx h2) hNx) (sZ h3 hNT) hstop (fun p=>match p with|.b i2 j=>if i2=i∧o'<=j∧j<o'+NW.length then (Z8 x (.b i2 j)) else .b i2 j|p=>p) ?_ ?_
 ·intro p g hp;cases p with
  |t k=>exact (oZ k g hp).1
  |b i2 j=>
   rcases hcell i2 j g hp with ⟨r1,r2,r3,k,hk,hown⟩|⟨r1,r2⟩
   ·have hne:=r3;subst r1 r2;simp only [true_and,Nat.le_refl];rw [if_pos oM,hk];exact hown
   ·simp only [];rw [if_neg r1];exact r2
 ·intro p q g hp hq he;cases p with
  |t k=>
   cases q with
   |t k2=>exact he
   |b i2 j=>
    simp only [] at he;split at he
    ·cases x with
     |tmp k'=>cases he;exact absurd (by simp [eP]) (oZ k g hp).2
     |_=>cases he
    ·cases he
  |b i2 j=>
   cases q with
   |t k2=>
    simp only [] at he;split at he
    ·cases x with
     |tmp k'=>cases he;exact absurd (by simp [eP]) (oZ k2 g hq).2
     |_=>cases he
    ·cases he
   |b i3 j3=>
    rcases hcell i2 j g hp with ⟨r1,r2,-,k,hk,hown⟩|⟨r1,r2⟩
    ·rcases hcell i3 j3 g hq with ⟨r3,r4,-⟩|⟨r3,r4⟩
     ·rw [r1,r2,r3,r4]
     ·exact absurd (H.nK _ _ g hown r4) (by simp)
    ·rcases hcell i3 j3 g hq with ⟨r3,r4,-,k,hk,hown⟩|⟨r3,r4⟩
     ·exact absurd (H.nK _ _ g r2 hown) (by simp)
     ·exact H.nK _ _ g r2 r4
theorem alloc_old (w:World) (x:Obj) {k:Nat} (h:k<w.heap.size):(w.alloc x).heap[k]?=w.heap[k]?:=((Below.refl w.heap.size w).alloc (Nat.le_refl _) x).block k h
theorem qc (w:World) (x:Obj):(w.alloc x).heap[w.heap.size]?=some x:=heap_alloc_new w x
theorem je (w:World) (x:Obj):(w.alloc x).heap.size=w.heap.size+1:=by simp
theorem wI (w:World) (x:Obj):Below 0 w (w.alloc x):=(Below.refl 0 w).alloc (Nat.zero_le _) x
theorem jX (H:aM lim bs w bx S m) {b:Nat} (h:b ∈ bs):b<w.heap.size:=by
 obtain ⟨i,hi,rfl⟩:=List.getElem_of_mem h;have hi2:i<bx.length:=by rw [←H.len];exact hi
 obtain ⟨c,tl,t,h1,-⟩:=H.box i _ (bx[i]) (List.getElem?_eq_getElem hi) (List.getElem?_eq_getElem hi2);exact di h1
theorem Dj (x:Obj):Fr m lim w lim (w.alloc x):=
 ⟨wI w x,fun k hk _=>⟨alloc_old w x hk,rfl⟩,fun _ _=>Nat.le_refl _,fun k j hk _=>World.cell?_of_block (alloc_old w x hk),fun b cur e p h=>⟨cur,(alloc_old w x (di h)).trans h,rfl⟩⟩
theorem cB {α:Type} (l:List α) (x:α) (i:Nat):(l++[x])[i]?=if i=l.length then some x else l[i]?:=by
 rw [List.getElem?_append];split
 ·rename_i h;rw [if_neg oM]
 ·rename_i h;by_cases e:i=l.length
  ·subst e;simp
  ·rw [if_neg e,List.getElem?_eq_none (show [x].length<=i-l.length by simp;omega),List.getElem?_eq_none oM]
theorem aM.alloc (H:aM lim bs w bx S m) (hm:∀b,w.heap.size<=b->m b) {c:List AV} {V:List Value} (tl:List Value) {t:TypeId} (hR:AV.Rs lim bs w c V) (hT:c.all AV.top=true) (hn:∀(j:Nat) (y:AV) (v:Value),c[j]?=some y->V[j]?=some v->y.isRow=true->v.ownBlock=none):
  aM lim (bs++[w.heap.size]) (w.alloc (.cells (V++tl).toArray t)) (bx++[c]) S m:=by
 have hnb:w.heap.size ∉ bs:=fun h=>Nat.lt_irrefl _ (jX H h);have pK:∀(i b:Nat),bs[i]?=some b->(bs++[w.heap.size])[i]?=some b:=fun i b h=>by rw [cB,if_neg (fun e=>by subst e;simp at h)];exact h
 have hfr:Fr m lim w lim (w.alloc (.cells (V++tl).toArray t)):=Dj _;have mW:=hfr.ext pK;have hrow:∀p g,Own w bs bx S p g->(w.alloc (.cells (V++tl).toArray t)).heap[g]?=w.heap[g]?∧lim g=lim g:=fun p g hp=>⟨alloc_old w _ (Own.lt H hp),rfl⟩;have ho:∀p g,Own (w.alloc (.cells (V++tl).toArray t)) (bs++[w.heap.size]) (bx++[c]) S p g->Own w bs bx S p g:=by
  intro p g hp;cases p with
  |t k=>exact hp
  |b i j=>
   obtain ⟨b,x,y,v,q1,q2,q3,q4,q5,q6⟩:=hp;rw [cB] at q1 q2;rw [←H.len] at q2;split at q1
   ·rename_i e;cases q1;rw [if_pos e] at q2;cases q2;have hjv:j<V.length:=by rw [AV.fB hR];exact (List.getElem?_eq_some_iff.1 q3).1
    have q5':V[j]?=some v:=by rw [jc (qc w _),List.getElem?_append_left hjv] at q5;exact q5
    rw [hn j y v q3 q5' q4] at q6;cases q6
   ·rename_i e;rw [if_neg e] at q2;exact ⟨b,x,y,v,q1,q2,q3,q4,by rw [←World.cell?_of_block (w':=w.alloc (.cells (V++tl).toArray t)) (alloc_old w _ (jX H (List.mem_of_getElem? q1)))];exact q5,q6⟩
 refine ⟨by simp [H.len],?_,fun b hb=>?_,fun b hb=>?_,fun i b x hi hx=>?_,fun k=>?_,H.jm,fun b hb=>H.top b (by rw [je] at hb;omega),fun p g hp=>?_,fun p q g hp hq=>H.nK p q g (ho p g hp) (ho q g hq)⟩
 ·rw [List.nodup_append];exact ⟨H.xV,by simp,fun x hx y hy e=>by rw [List.mem_singleton.1 hy] at e;exact hnb (e▸hx)⟩
 ·rcases List.mem_append.1 hb with hb|hb
  ·exact H.free b hb
  ·rw [List.mem_singleton.1 hb];exact H.top _ (Nat.le_refl _)
 ·rcases List.mem_append.1 hb with hb|hb
  ·exact H.mb b hb
  ·rw [List.mem_singleton.1 hb];exact hm _ (Nat.le_refl _)
 ·rw [cB] at hi hx;rw [←H.len] at hx;split at hi
  ·rename_i e;cases hi;rw [if_pos e] at hx;cases hx;refine ⟨V,tl,t,qc w _,mU mW hT (fun j y v g hy hv hr hg=>?_) hR,hT⟩;rw [hn j y v hy hv hr] at hg;cases hg
  ·rename_i e;rw [if_neg e] at hx;obtain ⟨C,U5,t2,g1,g2,g3⟩:=H.box i b x hi hx;refine ⟨C,U5,t2,(alloc_old w _ (di g1)).trans g1,mU mW g3 (fun j y v g hy hv hr hg=>?_) g2,g3⟩;exact hrow (.b i j) g ⟨b,x,y,v,hi,hx,hy,hr,dP g1 hv,hg⟩
 ·exact AV.R.mE mW (H.jm k) (fun g h1 h2=>hrow (.t k) g ⟨h1,h2⟩) (H.slot k)
 ·refine ⟨(H.own p g (ho p g hp)).1,fun hb=>?_⟩;rcases List.mem_append.1 hb with hb|hb
  ·exact (H.own p g (ho p g hp)).2 hb
  ·rw [List.mem_singleton.1 hb] at hp;exact Nat.lt_irrefl _ (Own.lt H (ho p _ hp))
theorem Ff (H:aM lim bs w σ.bx (Sl σ.tm a) m) (hm:∀b,w.heap.size<=b->m b) (hd:∀k,o.dst=some k->k<a.tmps.size) {c:List AV} {V:List Value} {t:TypeId} (hrun:(execOp a.eval o).run P w=.ok (.value (.pointer (some ⟨w.heap.size,0,none⟩))) (w.alloc (.cells V.toArray t)))
  (hR:AV.Rs lim bs w c V) (hT:c.all AV.top=true) (hn:∀(j:Nat) (y:AV) (v:Value),c[j]?=some y->V[j]?=some v->y.isRow=true->v.ownBlock=none) {ok:Bool} (hK:vM m lim bs w a (fin o.dst ⟨.ptr σ.bx.length 0,cs,[c],ok⟩ [] [] σ) K):o.wp P a w K Q:=by
 have H2:=H.alloc hm [] (t:=t) hR hT hn;rw [List.append_nil] at H2;refine gp hrun (hK lim (bs++[w.heap.size]) _ _ ⟨?_,Dj _,fun i b h=>?_,bL _ _ _,put_defers _ _ _⟩)
 ·show aM lim _ _ (aB σ.bx [] cs++[c]) (Sl (dW σ.tm o.dst (.ptr σ.bx.length 0)) (a.put o.dst _)) m;rw [aK,iE hd];refine H2.dW ?_ rfl (fun k g _ hh=>by cases hh);rw [AV.R];exact ⟨w.heap.size,by rw [cB,if_pos H.len.symm],rfl⟩
 ·rw [cB,if_neg (fun e=>by subst e;simp at h)];exact h
theorem PY (HT:kN P T) {t:Nat} {d:TD} (ho:o.op=.alloc t) (ht:T t=some d):∃V:List Value,(execOp a.eval o).run P w=.ok (.value (.pointer (some ⟨w.heap.size,0,none⟩))) (w.alloc (.cells V.toArray t))∧U3 d.zero V:=by obtain ⟨i,z,hi,hs,hb,hz,hc,Y1⟩:=HT.info t d ht;refine ⟨z.cells.toList,?_,Y1⟩;unfold execOp;simp [ho,Instr.alloc,zeroValue,typeInfo,hi,hz,newVar,newRow]
theorem XO {t:Nat} {x:Operand} (ho:o.op=.box t x):(execOp a.eval o).run P w=.ok (.value (.pointer (some ⟨w.heap.size,0,none⟩))) (w.alloc (.cells (a.eval x).cells.toList.toArray t)):=by unfold execOp;simp [ho,Instr.box,newVar,newRow]
theorem aM.grow (H:aM lim bs w bx S m) {g:Nat} (hg:g ∉ bs) (JN:m g) (hgl:g<w'.heap.size) {n:Nat} (hsz:w.heap.size<=w'.heap.size) (hb:Below 0 w w') (hoth:∀k,k<w.heap.size->k≠g->w'.heap[k]?=w.heap[k]?) (hown:∀p,¬Own w bs bx S p g)
  (hnew:w'.heap.size<=w.heap.size∨g=w.heap.size∧w'.heap.size=w.heap.size+1) (hle:lim g<=n) (hcell:∀j,g<w.heap.size->j<lim g->w'.cell? ⟨g,j,none⟩=w.cell? ⟨g,j,none⟩) (hsh:∀(cur:Array Value) (e:TypeId) (p:Nat×Nat),w.heap[g]?=some (Obj.cells cur e p)->∃cur':Array Value,w'.heap[g]?=some (.cells cur' e p)∧cur'.size=cur.size):
  aM (fun b=>if b=g then n else lim b) bs w' bx S m∧Fr m lim w (fun b=>if b=g then n else lim b) w'∧∀p k,Own w' bs bx S p k->Own w bs bx S p k:=by
 have hfr:Fr m lim w (fun b=>if b=g then n else lim b) w':=by
  refine ⟨hb,fun k hk hm=>?_,fun k hk=>?_,fun k j hk hj=>?_,fun k cur e p hk=>?_⟩
  ·have hne:k≠g:=fun e=>hm (e▸JN);exact ⟨hoth k hk hne,by simp only [if_neg hne]⟩
  ·show lim k<=if k=g then n else lim k;split
   ·rename_i e;subst e;exact hle
   ·exact Nat.le_refl _
  ·by_cases e:k=g
   ·subst e;exact hcell j hk hj
   ·exact World.cell?_of_block (hoth k hk e)
  ·by_cases he:k=g
   ·subst he;exact hsh cur e p hk
   ·exact ⟨cur,(hoth k (di hk) he).trans hk,rfl⟩
 have h:=H.world (lim':=fun b=>if b=g then n else lim b) (hfr.ext (fun _ _ h=>h)) (fun b hbm=>?_) (fun p k hp=>?_) (fun b hbb=>?_)
 ·exact ⟨h.1,hfr,h.2⟩
 ·have hne:b≠g:=fun e=>hg (e▸hbm);exact ⟨hoth b (jX H hbm) hne,by simp only [if_neg hne];exact H.free b hbm⟩
 ·have hne:k≠g:=fun e=>hown p (e▸hp);exact ⟨hoth k (Own.lt H hp) hne,by simp only [if_neg hne]⟩
 ·show (if b=g then n else lim b)=0;rw [if_neg oM];exact H.top b oM
theorem kP:∀{x y:List AV} {c d:List Value},AV.Rs lim bs w x c->AV.Rs lim bs w y d->AV.Rs lim bs w (x++y) (c++d)
 |[],y,c,d,h,h2=>by rw [AV.Rs] at h;subst h;exact h2
 |z::x,y,c,d,h,h2=>by rw [AV.Rs] at h;obtain ⟨v,r,rfl,h3,h4⟩:=h;rw [List.cons_append,List.cons_append,AV.Rs];exact ⟨v,_,rfl,h3,kP h4 h2⟩
theorem Me {z len:Nat} {place:Nat->Option (Nat×Nat)} (hp:∀i,place i=some (i*z,z)):
  ∀{ps:List (Nat×AV)} {vs:List (Nat×Value)} {k:Nat} {V:Array Value} {l:List AV},Ps lim bs w ps vs->parts k ps=some l->dI l=true->(ps.all fun p=>decide ((cells p.2).length=z))=true->k+ps.length=len->V.size=len*z->
   ∃V',Instr.fill place V vs=some V'∧V'.size=V.size∧V'.toList.take (k*z)=V.toList.take (k*z)∧AV.Rs lim bs w l (V'.toList.drop (k*z)):=by
 intro ps vs k V l hps
 induction hps generalizing k V l with
 |nil=>
  intro h _ _ hk hV;rw [parts] at h;cases h;refine ⟨V,rfl,rfl,rfl,?_⟩;rw [List.drop_eq_nil_of_le (by simp [hV];simp at hk;rw [hk];exact Nat.le_refl _),AV.Rs]
 |@cons i x u ps vs hx hr ih=>
  intro h h1 hz hk hV;rw [parts] at h;split at h
  ·rename_i hik;subst hik;cases hl2:parts (i+1) ps with
   |none=>rw [hl2] at h;cases h
   |some l2=>
    rw [hl2] at h;cases h;have NR:∀(a b:List AV),dI (a++b)=true->dI a=true∧dI b=true:=by
     intro a
     induction a with
     |nil=>intro b hb;exact ⟨rfl,hb⟩
     |cons y a iha=>
      intro b hb;rw [List.cons_append,dI,Bool.and_eq_true] at hb;have:=iha b hb.2;exact ⟨by rw [dI,hb.1,this.1];rfl,this.2⟩
    obtain ⟨o1,o2⟩:=NR _ _ h1;rw [List.all_cons,Bool.and_eq_true,decide_eq_true_eq] at hz;have hc:=BD o1 hx.r.bY;have hcl:=AV.fB hc;have hcs:u.cells.size=z:=by
     have h5:u.cells.toList.length=z:=by rw [hcl];exact hz.1
     simpa using h5
    rw [List.length_cons] at hk;have hroom:i*z+z<=V.size:=by rw [hV,←Nat.succ_mul];exact Nat.mul_le_mul_right z oM
    have JP:=Ey u.cells (i*z) V oM;obtain ⟨V',e1,e2,e3,e4⟩:=ih (k:=i+1) (V:=u.cells.zipIdx.foldl (fun (cs:Array Value) (c,j)=>cs.setIfInBounds (i*z+j) c) V) hl2 o2 hz.2 oM (by
     have:=congrArg List.length JP;rw [vS] at this;simp only [Array.length_toList] at this;rw [this,hV])
    have hsz2:(u.cells.zipIdx.foldl (fun (cs:Array Value) (c,j)=>cs.setIfInBounds (i*z+j) c) V).size=V.size:=by have:=congrArg List.length JP;rw [vS] at this;simpa using this
    rw [JP] at e3;refine ⟨V',?_,by rw [e2,hsz2],?_,?_⟩
    ·rw [Instr.fill,hp i];simp only [];rw [if_neg (by simp [hcs];omega)];exact e1
    ·apply List.ext_getElem?;intro j;rw [List.getElem?_take,List.getElem?_take];split
     ·rename_i hj;have h6:=congrArg (fun l:List Value=>l[j]?) e3;simp only [List.getElem?_take] at h6;have:j<(i+1)*z:=by rw [Nat.succ_mul];omega
      rw [if_pos this,if_pos this,dL,if_neg oM] at h6;exact h6
     ·rfl
    ·have hsplit:V'.toList.drop (i*z)=u.cells.toList++V'.toList.drop ((i+1)*z):=by
      apply List.ext_getElem?;intro j;rw [List.getElem?_drop,List.getElem?_append];split
      ·rename_i hj;have h6:=congrArg (fun l:List Value=>l[i*z+j]?) e3;simp only [List.getElem?_take] at h6;have hjz:j<z:=by simpa [hcs] using hj
       have:i*z+j<(i+1)*z:=by rw [Nat.succ_mul];omega
       rw [if_pos this,if_pos this,dL,if_pos ⟨oM,by simp [hcs];omega,by simp;omega⟩] at h6;rw [h6];congr 1;omega
      ·rename_i hj;rw [List.getElem?_drop];congr 1;have:u.cells.toList.length=z:=by simp [hcs]
       rw [Nat.succ_mul];omega
     rw [hsplit];exact kP hc e4
  ·cases h
theorem ES {g n c e z:Nat} {l:List AV} {V:Array Value} (hl:l.length=n*z) (hf:AV.ak l=true) (hb:w.heap[g]?=some (.cells V e (0,0))) (hn:n<=c) (hc:c<=maxLen) (hs:V.size=c*z) (hlim:lim g=l.length) (hR:∃vs:List Value,AV.Rs lim bs w l vs∧V.toList.take (n*z)=vs):
  AV.R lim bs w (.row e z n l) (.slice (some ⟨g,0,none⟩) n c):=by
 obtain ⟨vs,h1,h2⟩:=hR;rw [AV.R];refine ⟨hl,hf,.inr ⟨g,c,V,rfl,hb,hn,hc,hs,hlim,nO h1 (fun j v hj=>?_)⟩⟩;have hb2:w.heap[g]?=some (.cells V.toList.toArray e (0,0)):=by simpa using hb
 rw [jc hb2,Nat.zero_add];have h3:(V.toList.take (n*z))[j]?=some v:=by rw [h2];exact hj
 rw [List.getElem?_take] at h3;split at h3
 ·exact h3
 ·cases h3
theorem aci {ps:List (Nat×AV)} {vs:List (Nat×Value)} (h:Ps lim bs w ps vs):ps.length=vs.length:=by
 induction h with
 |nil=>rfl
 |cons _ _ ih=>rw [List.length_cons,List.length_cons,ih]
theorem Kg (HT:kN P T) (H:aM lim bs w σ.bx (Sl σ.tm a) m) (hm:∀b,w.heap.size<=b->m b) (hd:∀k,o.dst=some k->k<a.tmps.size) {t e len:Nat} {d:TD} {ps:Array (Nat×Operand)} {X:List (Nat×AV)} (ho:o.op=.buildSlice t len ps) (ht:vC T t=some (e,d)) (hx:Ps lim bs w X (ps.toList.map fun p=>(p.1,a.eval p.2)))
  {mt:Bool} (h:fq mt σ.bx.length e d len X cs=some out) (hok:out.ok=true) (hK:vM m lim bs w a (fin o.dst out [] [] σ) K):o.wp P a w K Q:=by
 unfold fq at h;split at h
 ·cases h
 ·rename_i l hl;cases h;simp only [Bool.and_eq_true,decide_eq_true_eq] at hok;obtain ⟨⟨⟨⟨⟨⟨k1,k2⟩,k3⟩,k4⟩,k5⟩,k6⟩,k8⟩:=hok;obtain ⟨hu,he⟩:=pO HT ht;obtain ⟨i,z,hi,hs,hby,hz,hzc,Y1⟩:=HT.info e d he;obtain ⟨V',e1,e2,e3,e4⟩:=Me (z:=d.size) (len:=len) (place:=fun i=>some (i*d.size,d.size)) (fun i=>rfl) (k:=0) (V:=(Array.range (len*d.size)).map (z.cells[·% z.cells.size]!)) hx hl k5 (by
   rw [List.all_eq_true] at k8⊢;intro p hp;simpa using k8 p hp) oM (by simp)
  simp only [Nat.zero_mul,List.drop_zero] at e4;have hVl:=AV.fB e4;have hVs:V'.size=len*d.size:=by rw [e2];simp
  have agE:len=0->(execOp a.eval o).run P w=.ok (.value (.slice (some ⟨w.heap.size,0,none⟩) len len)) (w.alloc (.cells V' e)):=by
   intro Tf;subst Tf;have hX0:X=[]:=List.eq_nil_of_length_eq_zero k2;have hps:ps.toList=[]:=by have:=aci hx;rw [hX0] at this;exact List.eq_nil_of_length_eq_zero (by simpa using this.symm)
   have akP:ps=#[]:=by simpa using hps
   have hV0:V'=#[]:=Array.eq_empty_of_size_eq_zero (by rw [hVs];simp);unfold execOp;simp [ho,akP,Instr.buildSlice,run_underlying hu,run_sizeOf hi,Instr.fill,newRow,hV0];have e0:Array.map (fun _=>(default:Value)) (Array.range 0)=#[]:=Array.eq_empty_of_size_eq_zero (by simp);rw [e0]
  have hrunA:(execOp a.eval o).run P w=.ok (.value (.slice (some ⟨w.heap.size,0,none⟩) len len)) (w.alloc (.cells V' e)):=by
   by_cases Tf:len=0
   ·exact agE Tf
   ·have hpos:0<len*d.size:=Nat.mul_pos oM k1;unfold execOp;simp only [ho];rw [Sem.run_bind,run_buildSlice w t e len _ V' i z hu hi hz (by rw [hs];omega) (by rw [hs];omega) (by rw [hs];simpa using e1)];rfl
  have hcap:len<=maxLen:=by unfold maxLen;have:len<=len*d.size:=Nat.le_mul_of_pos_right _ k1;omega
  cases mt with
  |true=>
   have H2:=H.alloc hm [] (t:=e) e4 (jN k6) (fun j y v hy hv hr=>by
    have:=kZ (eH k6 hy);rw [this] at hr;cases hr)
   rw [List.append_nil,show V'.toList.toArray=V' by simp] at H2;refine gp hrunA (hK lim (bs++[w.heap.size]) _ _ ⟨?_,Dj _,fun i b h=>?_,bL _ _ _,put_defers _ _ _⟩)
   ·show aM lim _ _ (aB σ.bx [] cs++[l]) (Sl (dW σ.tm o.dst (.bU σ.bx.length e d.size len)) (a.put o.dst _)) m;rw [aK,iE hd];refine H2.dW ?_ rfl (fun k g _ hh=>by cases hh);rw [AV.R];exact ⟨w.heap.size,len,V',by rw [cB,if_pos H.len.symm],qc w _,hVs,Nat.le_refl _,hcap,rfl⟩
   ·rw [cB,if_neg (fun e=>by subst e;simp at h)];exact h
  |false=>
   obtain ⟨H2,hfr,hown⟩:=H.grow (w':=w.alloc (.cells V' e)) (g:=w.heap.size) (n:=l.length) (fun hb=>Nat.lt_irrefl _ (jX H hb)) (hm _ (Nat.le_refl _)) (by rw [je];omega) (by rw [je];omega) (wI w _) (fun k hk _=>alloc_old w _ hk) (fun p hp=>Nat.lt_irrefl _ (Own.lt H hp)) (.inr ⟨rfl,je w _⟩) (by rw [H.top _ (Nat.le_refl _)];omega) (fun j hj=>absurd hj (Nat.lt_irrefl _)) (fun cur e p hh=>absurd (di hh) (Nat.lt_irrefl _));refine gp hrunA (hK _ bs _ _ ⟨?_,hfr,fun _ _ h=>h,bL _ _ _,put_defers _ _ _⟩);show aM _ bs _ (aB σ.bx [] cs++[]) (Sl (dW σ.tm o.dst (.row e d.size len l)) (a.put o.dst _)) m;rw [List.append_nil,aK,iE hd];refine H2.dW (ES k3 k6 (qc w _) (Nat.le_refl _) ?_ hVs (by simp) ⟨V'.toList,AV.Rs.ext (hfr.ext (fun _ _ h=>h)) k6 e4,?_⟩) ?_ (fun k g _ _ hg=>?_)
   ·unfold maxLen;have:len<=len*d.size:=Nat.le_mul_of_pos_right _ k1;omega
   ·rw [←hVs];exact List.take_of_length_le (by simp)
   ·rw [AV.top];rfl
   ·have hg':w.heap.size=g:=by simpa [Value.ownBlock] using hg
    subst hg';exact ⟨hm _ (Nat.le_refl _),fun hb=>Nat.lt_irrefl _ (jX H hb),fun p hp=>absurd (Own.lt H (hown p _ hp)) (Nat.lt_irrefl _)⟩
theorem Bp {t ty e z by_ n m' c:Nat} {i:TypeInfo} {zv:Value} (ht:P.underlying t=some (.slice e)) (hi:P.info? e=some i) (hz:i.zero=some zv) (hs:i.size=z) (hby:i.bytes=by_) (hzs:zv.cells.size=z) (hpos:0<z) (abz:by_<=1000)
  {u:Value} {xs news:List Value} (hxs:xs.length=n*z)
  (hu:(u=.slice none 0 0∧n=0)∨∃g cap cur,u=.slice (some ⟨g,0,none⟩) n cap∧w.heap[g]?=some (.cells cur e (0,0))∧n<=cap∧cap<=maxLen∧cur.size=cap*z∧cur.toList.take (n*z)=xs)
  {b o':Nat} (hl:news.length=m'*z) (hnews:∀(j:Nat) (v:Value),news[j]?=some v->w.cell? ⟨b,o'+j,none⟩=some v) (h1:∀v ∈ news,v.oneCell'=true) (hm0:0<m') (hlen:n+m'<=10000000000):
  ∃g cap cur' w',(Builtin.append_ #[t,t] ty #[u,.slice (some ⟨b,o',none⟩) m' c]).run P w=.ok (.slice (some ⟨g,0,none⟩) (n+m') cap) w'∧w'.heap[g]?=some (.cells cur' e (0,0))∧n+m'<=cap∧cap<=maxLen∧cur'.size=cap*z∧cur'.toList.take ((n+m')*z)=xs++news∧Below 0 w w'∧
   ((u.ownBlock=some g∧w'.heap.size=w.heap.size∧(∀k,k≠g->w'.heap[k]?=w.heap[k]?)∧∃Pz:Array Value,w.heap[g]?=some (.cells Pz e (0,0))∧Pz.size=cur'.size)∨(g=w.heap.size∧w'.heap.size=w.heap.size+1∧∀k,k<w.heap.size->w'.heap[k]?=w.heap[k]?)):=by
 subst hs hby
 have Qc:n+m'<=maxLen:=by unfold maxLen;omega
 have hbytes:(n+m')*i.bytes<=140737488355328:=Nat.le_trans (Nat.mul_le_mul hlen abz) dE;have hnw:∀(j:Nat) (v:Value),news[j]?=some v->w.cell? ((⟨b,o',none⟩:Addr).add j)=some v:=fun j v hj=>by rw [add_mid];exact hnews j v hj
 have hlx:(xs++news).length=(n+m')*i.size:=by rw [List.length_append,hxs,hl,Nat.add_mul]
 have grown:∀old,old<n+m'->∃cur':Array Value,cur'=(xs.toArray++news.toArray++Builtin.zeroCells zv.cells (grownCap w (n+m') old e-(n+m')))∧cur'.size=grownCap w (n+m') old e*i.size∧cur'.toList.take ((n+m')*i.size)=xs++news:=by
  intro old ho;refine ⟨_,rfl,?_,?_⟩
  ·have:=grownCap_ge w (n+m') old e;simp only [Array.size_append,List.size_toArray,size_zeroCells,hzs,hxs,hl,←Nat.add_mul];congr 1;omega
  ·rw [Array.toList_append,Array.toList_append,←hlx];exact List.take_left
 rcases hu with ⟨rfl,rfl⟩|⟨g,cap,cur,rfl,hg,hnc,hcm,hcs,htake⟩
 ·have hx:xs=[]:=List.eq_nil_of_length_eq_zero (by simpa using hxs);subst hx;obtain ⟨cur',e1,e2,e3⟩:=grown 0 oM;simp only [Nat.zero_add] at e1 e2 e3 hbytes Qc;have hr:=run_append_nil (P:=P) w t ty e i zv ht hi hz ⟨b,o',none⟩ m' c news hl hnw oM oM oM;refine ⟨w.heap.size,_,cur',w.drew.alloc (.cells cur' e),?_,?_,?_,?_,e2,by rw [Nat.zero_add];exact e3,?_,.inr ⟨rfl,?_,fun k hk=>?_⟩⟩
  ·rw [hr,e1];simp
  ·exact heap_alloc_new w.drew _
  ·rw [Nat.zero_add];exact grownCap_ge w _ 0 e
  ·exact grownCap_le_maxLen w _ 0 e Qc
  ·exact ((Below.refl 0 w).drew).alloc (Nat.zero_le _) _
  ·simp
  ·exact heap_alloc_old w.drew _ hk
 ·by_cases hroom:n+m'<=cap
  ·have hfit:n*i.size+news.length<=cur.size:=by rw [hl,hcs,←Nat.add_mul];exact Nat.mul_le_mul_right _ hroom
   have hr:=run_append_room (P:=P) w t ty e i ht hi g n cap cur hg ⟨b,o',none⟩ m' c news hl hnw h1 hroom hfit;refine ⟨g,cap,_,_,hr,setRow_heap w g cur _ e _ hg,hroom,hcm,?_,?_,below_setRow (Below.refl 0 w) (Nat.zero_le _) _,.inl ⟨rfl,by simp,fun k hk=>setRow_other w g k _ hk,cur,hg,?_⟩⟩
   ·simp only [List.size_toArray,List.length_append,List.length_take,List.length_drop,Array.length_toList];omega
   ·rw [htake,←hlx];exact List.take_left
   ·simp only [List.size_toArray,List.length_append,List.length_take,List.length_drop,Array.length_toList];omega
  ·obtain ⟨cur',e1,e2,e3⟩:=grown cap oM;have holds:∀(j:Nat) (v:Value),xs[j]?=some v->w.cell? ((⟨g,0,none⟩:Addr).add j)=some v:=by
    intro j v hj;rw [add_mid,Nat.zero_add];have hb2:w.heap[g]?=some (.cells cur.toList.toArray e (0,0)):=by simpa using hg
    rw [jc hb2];have h3:(cur.toList.take (n*i.size))[j]?=some v:=by rw [htake];exact hj
    rw [List.getElem?_take] at h3;split at h3
    ·exact h3
    ·cases h3
   have hr:=run_append_grow (P:=P) w t ty e i zv ht hi hz ⟨g,0,none⟩ n cap xs hxs holds ⟨b,o',none⟩ m' c news hl hnw oM (by unfold maxLen at Qc;omega) (growslice_fits oM hbytes);refine ⟨w.heap.size,_,cur',w.drew.alloc (.cells cur' e),?_,heap_alloc_new w.drew _,grownCap_ge w _ cap e,grownCap_le_maxLen w _ cap e Qc,e2,e3,((Below.refl 0 w).drew).alloc (Nat.zero_le _) _,.inr ⟨rfl,by simp,fun k hk=>heap_alloc_old w.drew _ hk⟩⟩;rw [hr,e1]
theorem RG {t ty e:TypeId} {i:TypeInfo} (ht:P.underlying t=some (.slice e)) (hi:P.info? e=some i) (base ax:Option Addr) (n cap c:Nat) (hn:n<=cap):
  (Builtin.append_ #[t,t] ty #[.slice base n cap,.slice ax 0 c]).run P w=.ok (.slice base n cap) w:=by
 cases ax<;>cases base<;>simp [Builtin.append_,run_underlying ht,sizeOf,typeInfo,hi,Builtin.lenOf,Builtin.firstCells,hn,storeCells,loadCells,loadCellsFrom]
theorem dX:∀{x y:List AV},AV.ak x=true->AV.ak y=true->AV.ak (x++y)=true
 |[],y,_,h=>h
 |z::x,y,h,h2=>by rw [AV.ak,Bool.and_eq_true] at h;rw [List.cons_append,AV.ak,h.1,dX h.2 h2];rfl
theorem UK (HT:kN P T) (H:aM lim bs w σ.bx (Sl σ.tm a) m) (hm:∀b,w.heap.size<=b->m b) (hd:∀k,o.dst=some k->k<a.tmps.size) {c:Call} {t e:Nat} {d:TD} {s x:Operand} {Sv X:AV} (ho:o.op=.call c) (AY:c.callee=.builtin .append) (hargs:c.args=#[s,x]) (LK:c.argTypes=#[t,t]) (ht:vC T t=some (e,d))
  (hs:Av lim bs w Sv (a.eval s)) (hsrc:Sv.isRow=true->∃k,s=.tmp k∧Sv=get σ.tm k) (hx:Av lim bs w X (a.eval x)) (h:pR e d Sv X true cs=some out) (hok:out.ok=true) (hK:vM m lim bs w a (fin o.dst out [] (eP s) σ) K):o.wp P a w K Q:=by
 unfold pR at h;split at h
 ·cases h
 ·rename_i n l C8;split at h
  ·cases h
  ·rename_i m' k hel;have:=dG h;subst this;simp only [Bool.and_eq_true,decide_eq_true_eq,true_and] at hok;obtain ⟨⟨⟨⟨⟨k1,k2⟩,k3⟩,k4⟩,k5⟩,k7⟩:=hok;obtain ⟨hu,he⟩:=pO HT ht;obtain ⟨i,zv,hi,hsz,hby,hz,hzc,Y1⟩:=HT.info e d he;obtain ⟨H2,hg3,hg4⟩:=uS H (eP s);have hsv:l.length=n*d.size∧AV.ak l=true∧AV.R lim bs w (.row e d.size n l) (a.eval s)∧((a.eval s).ownBlock=none∨Sv.isRow=true):=by
    unfold SA at C8;split at C8
    ·cases C8;have h1:=hs.r;rw [AV.R] at h1;rw [h1];exact ⟨by simp,rfl,by rw [AV.R];exact ⟨by simp,rfl,.inl ⟨rfl,rfl⟩⟩,.inl rfl⟩
    ·rename_i e' z' n' l';split at C8
     ·rename_i heq;obtain ⟨rfl,rfl⟩:=heq;cases C8;have h1:=hs.r;refine ⟨?_,h1.ER,h1,.inr rfl⟩;rw [AV.R] at h1;exact h1.1
     ·cases C8
    ·cases C8
   obtain ⟨v1,v2,v3,v4⟩:=hsv;obtain ⟨ad,cp,e1,e2,e3,e4⟩:=yY hx hel;have Fp:∀v w2,(Builtin.append_ #[t,t] o.type #[a.eval s,a.eval x]).run P w=.ok v w2->(execOp a.eval o).run P w=.ok (.value v) w2:=by intro v w2 hr;unfold execOp;simp [ho,resolve,AY,hargs,LK,invoke,builtin,hr]
   have GA:∀g,(a.eval s).ownBlock=some g->m g∧g ∉ bs∧g<w.heap.size∧∀p,¬Own w bs σ.bx (Sl (eZ σ.tm (eP s)) a) p g:=by
    intro g hg;rcases v4 with v4|v4
    ·rw [v4] at hg;cases hg
    ·obtain ⟨ks,rfl,hSk⟩:=hsrc v4;have ho1:Own w bs σ.bx (Sl σ.tm a) (.t ks) g:=⟨by show (get σ.tm ks).isRow=true;rw [←hSk];exact v4,hg⟩;refine ⟨(H.own _ _ ho1).1,(H.own _ _ ho1).2,Own.lt H ho1,fun p hp=>?_⟩;have:=H.nK p (.t ks) g (hg3 p g hp) ho1;subst this;exact hg4 ks g (by simp [eP]) hp
   rcases Nat.eq_zero_or_pos m' with hm0|hm0
   ·
    subst hm0;have hk0:k=[]:=List.eq_nil_of_length_eq_zero (by rw [k2];simp);subst hk0;have hform:∃base cap,a.eval s=.slice base n cap∧n<=cap:=by
     rw [AV.R] at v3;rcases v3.2.2 with ⟨q1,q2⟩|⟨g,c',cur,q1,-,q2,-⟩
     ·exact ⟨none,0,by rw [q1,q2],oM⟩
     ·exact ⟨_,c',q1,q2⟩
    obtain ⟨base,cap,q1,q2⟩:=hform;have hr:=Fp _ w (by rw [q1,e1];exact RG hu hi base ad n cap cp q2);rw [←q1] at hr;refine gp hr (hK lim bs w _ ⟨?_,Fr.refl,fun _ _ h=>h,bL _ _ _,put_defers _ _ _⟩);show aM lim bs w (aB σ.bx [] cs++[]) (Sl (dW (eZ σ.tm (eP s)) o.dst (MH Sv e d.size (n+0) 0 (l++[]))) (a.put o.dst (a.eval s))) m;rw [List.append_nil,aK,iE hd,Nat.add_zero,List.append_nil];unfold MH;split
    ·exact H2.dW hs.r rfl (fun kk g _ hh=>by cases hh)
    ·exact H2.dW v3 (by rw [AV.top];rfl) (fun kk g _ _ hg=>⟨(GA g hg).1,(GA g hg).2.1,fun p hp=>absurd hp ((GA g hg).2.2.2 p)⟩)
   ·rcases e4 with e4|⟨b,o',rfl,f1,f2,f3⟩
    ·subst e4;have:0<m'*d.size:=Nat.mul_pos hm0 k3;simp at k2;omega
    obtain ⟨news,n1,n2,n3⟩:=uw f3;have hxs:∃xs:List Value,AV.Rs lim bs w l xs∧((a.eval s=.slice none 0 0∧n=0)∨∃g cap cur,a.eval s=.slice (some ⟨g,0,none⟩) n cap∧w.heap[g]?=some (.cells cur e (0,0))∧n<=cap∧cap<=maxLen∧cur.size=cap*d.size∧cur.toList.take (n*d.size)=xs)∧(∀g,(a.eval s).ownBlock=some g->lim g=l.length):=by
     rw [AV.R] at v3;rcases v3.2.2 with ⟨q1,q2⟩|⟨g,c',cur,q1,q2,q3,q4,q5,q6,q7⟩
     ·refine ⟨[],?_,.inl ⟨q1,q2⟩,fun g hg=>by rw [q1] at hg;cases hg⟩;have:l=[]:=List.eq_nil_of_length_eq_zero (by rw [v1,q2];simp);rw [this,AV.Rs]
     ·obtain ⟨xs,x1,x2,x3⟩:=uw q7;have hb2:w.heap[g]?=some (.cells cur.toList.toArray e (0,0)):=by simpa using q2
      refine ⟨xs,x2,.inr ⟨g,c',cur,q1,q2,q3,q4,q5,?_⟩,fun g2 hg=>by rw [q1] at hg;cases hg;exact q6⟩;have hle:n*d.size<=cur.size:=by rw [q5];exact Nat.mul_le_mul_right _ q3
      apply List.ext_getElem?;intro j;rw [List.getElem?_take];split
      ·rename_i hj;have hjx:j<xs.length:=by rw [x1,v1];exact hj
       have h5:=x3 j _ (List.getElem?_eq_getElem hjx);rw [jc hb2,Nat.zero_add] at h5;rw [h5,List.getElem?_eq_getElem hjx]
      ·rename_i hj;rw [List.getElem?_eq_none (by rw [x1,v1];omega)]
    obtain ⟨xs,x1,x2,x3⟩:=hxs;have hxl:=AV.fB x1;obtain ⟨g,cap,cur',w2,r1,r2,r3,r4,r5,r6,r7,r8⟩:=Bp (P:=P) (w:=w) (ty:=o.type) (b:=b) (o':=o') (c:=cp) hu hi hz hsz hby hzc k3 k4 (by rw [hxl,v1]) x2 (by rw [n1,k2]) n3 (zL k5 n2) hm0 k1;have hr:=Fp _ w2 (by rw [e1];exact r1);have hnR:AV.Rs lim bs w (l++k) (xs++news):=kP x1 n2;have hgm:m g∧g ∉ bs∧(∀p,¬Own w bs σ.bx (Sl (eZ σ.tm (eP s)) a) p g)∧(w2.heap.size<=w.heap.size∨g=w.heap.size∧w2.heap.size=w.heap.size+1)∧w.heap.size<=w2.heap.size∧g<w2.heap.size∧lim g<=(l++k).length∧(∀j,g<w.heap.size->j<lim g->w2.cell? ⟨g,j,none⟩=w.cell? ⟨g,j,none⟩)∧(∀kk,kk<w.heap.size->kk≠g->w2.heap[kk]?=w.heap[kk]?)∧(∀(cur:Array Value) (e:TypeId) (p:Nat×Nat),w.heap[g]?=some (Obj.cells cur e p)->∃cur':Array Value,w2.heap[g]?=some (.cells cur' e p)∧cur'.size=cur.size):=by
     rcases r8 with ⟨g1,g2,g3,Pz,s5,s6⟩|⟨g1,g2,g3⟩
     ·obtain ⟨s1,s2,s3,s4⟩:=GA g g1;refine ⟨s1,s2,s4,.inl oM,oM,oM,by rw [x3 g g1,List.length_append];omega,fun j _ hj=>?_,fun kk _ hk=>g3 kk hk,fun cur e p hh=>by rw [s5] at hh;cases hh;exact ⟨cur',r2,s6.symm⟩⟩;rw [x3 g g1] at hj;have hb2:w2.heap[g]?=some (.cells cur'.toList.toArray e (0,0)):=by simpa using r2
      rw [jc hb2];rcases x2 with ⟨q1,-⟩|⟨g',cap',cur,q1,q2,q3,q4,q5,q6⟩
      ·rw [q1] at g1;cases g1
      ·rw [q1] at g1;have hgg:g'=g:=by simpa [Value.ownBlock] using g1
       subst hgg;have hb3:w.heap[g']?=some (.cells cur.toList.toArray e (0,0)):=by simpa using q2
       rw [jc hb3];have hj2:j<(n+m')*d.size:=by rw [Nat.add_mul];omega
       have t1:(cur'.toList.take ((n+m')*d.size))[j]?=(xs++news)[j]?:=by rw [r6]
       have t2:(cur.toList.take (n*d.size))[j]?=xs[j]?:=by rw [q6]
       rw [List.getElem?_take,if_pos hj2,List.getElem?_append_left oM] at t1;rw [List.getElem?_take,if_pos oM] at t2;rw [t1,t2]
     ·refine ⟨by rw [g1];exact hm _ (Nat.le_refl _),by rw [g1];exact fun hb=>Nat.lt_irrefl _ (jX H hb),fun p hp=>?_,.inr ⟨g1,g2⟩,oM,oM,by rw [g1,H.top _ (Nat.le_refl _)];omega,fun j hj=>by omega,fun kk hk _=>g3 kk hk,fun cur e p hh=>by have:=di hh;omega⟩;have:=Own.lt H2 hp;omega
    obtain ⟨a1,a2,a3,a4,a5,a6,a7,a8,a9,P8⟩:=hgm;obtain ⟨H3,hfr,hown⟩:=H2.grow (w':=w2) (g:=g) (n:=(l++k).length) a2 a1 a6 a5 r7 a9 a3 a4 a7 a8 P8;refine gp hr (hK _ bs w2 _ ⟨?_,hfr,fun _ _ h=>h,bL _ _ _,put_defers _ _ _⟩);have hav:MH Sv e d.size (n+m') m' (l++k)=.row e d.size (n+m') (l++k):=by
     unfold MH;split
     ·obtain ⟨m2,rfl⟩:∃m2,m'=m2+1:=⟨m'-1,oM⟩;rfl
     ·rfl
    show aM _ bs w2 (aB σ.bx [] cs++[]) (Sl (dW (eZ σ.tm (eP s)) o.dst (MH Sv e d.size (n+m') m' (l++k))) (a.put o.dst _)) m;rw [hav];rw [List.append_nil,aK,iE hd];refine H3.dW (ES (by rw [List.length_append,v1,k2,Nat.add_mul]) (dX v2 k7) r2 r3 r4 r5 (by simp) ⟨xs++news,AV.Rs.ext (hfr.ext (fun _ _ h=>h)) (dX v2 k7) hnR,r6⟩) (by rw [AV.top];rfl) (fun kk g2 _ _ hg=>?_);have hgg:g=g2:=by simpa [Value.ownBlock] using hg
    subst hgg;exact ⟨a1,a2,fun p hp=>absurd (hown p _ hp) (a3 p)⟩
def aS (args:List AV) (vs:List Value):rE:=fun k=>(args.getD k .bad,vs.getD k undef)
def rS (r:AV) (v:Value):rE:=fun k=>if k=0 then (r,v) else (.bad,undef)
def X8 (P:Program) (f:Nat):Prop:=∃fn,P.funcs[f]?=some fn∧(fn.name== "runtime.NumGoroutine")=false∧fn.body.isNone=false
structure aW (P:Program) (f:Nat) (args:List AV) (bx:List (List AV)) (r:AV) (bx':List (List AV)):Prop where
 H5:X8 P f
 len:bx.length<=bx'.length
 call:∀(lim:Nat->Nat) (bs:List Nat) (w:World) (vs:List Value) (m:Nat->Prop),vs.length=args.length->(∀b,w.heap.size<=b->m b)->aM lim bs w bx (aS args vs) m->
  Calls P f vs.toArray w fun e w'=>∃v lim' bs',e=.returned v∧aM lim' bs' w' bx' (rS r v) m∧Fr m lim w lim' w'∧∀i,i<bx.length->bs'[i]?=bs[i]?
def eT (P:Program) (cal:xR):Prop:=∀(f:Nat) (args:List AV) (bx:List (List AV)) (r:AV) (bx':List (List AV)),cal f args bx=some (r,bx')->aW P f args bx r bx'
theorem mP {f:Nat} (h:X8 P f) (args:Array Value):(callFunc f args).run P w=.ok (.enter f args) w:=by
 obtain ⟨fn,h1,h2,h3⟩:=h;have h2':¬fn.name= "runtime.NumGoroutine":=by simpa using h2
 have h3':¬fn.body=none:=by intro e;rw [e] at h3;cases h3
 unfold callFunc;simp [h1,h2',h3']
theorem NQ:∀{l:List Nat} {i:Nat},i ∈ l->l[l.idxOf i]?=some i
 |[],i,h=>by cases h
 |x::l,i,h=>by
  rw [List.idxOf_cons];by_cases e:x=i
  ·subst e;simp
  ·have he:(x==i)=false:=by simpa using e
   rw [he];rcases List.mem_cons.1 h with h|h
   ·exact absurd h.symm e
   ·simpa using NQ h
theorem lZ:∀{ids:List Nat} {cs:List (List AV)},bn bx ids=some cs->cs.length=ids.length∧∀(k i:Nat),ids[k]?=some i->∃c,bx[i]?=some c∧cs[k]?=some c
 |[],cs,h=>by rw [bn] at h;cases h;exact ⟨rfl,fun k i hk=>by simp at hk⟩
 |j::r,cs,h=>by
  rw [bn] at h;split at h
  ·rename_i c cs' hc hcs;cases h;obtain ⟨h1,h2⟩:=lZ hcs;refine ⟨by simp [h1],fun k i hk=>?_⟩;cases k with
   |zero=>simp at hk;subst hk;exact ⟨c,hc,rfl⟩
   |succ k=>obtain ⟨c2,h3,h4⟩:=h2 k i (by simpa using hk);exact ⟨c2,h3,by simpa using h4⟩
  ·cases h
theorem lV:∀{ids:List Nat} {cs:List (List AV)} {bx:List (List AV)},ids.Nodup->cs.length=ids.length->(aB bx ids cs).length=bx.length∧(∀i,i ∉ ids->(aB bx ids cs)[i]?=bx[i]?)∧(∀(k i:Nat) (c:List AV),ids[k]?=some i->cs[k]?=some c->i<bx.length->(aB bx ids cs)[i]?=some c)
 |[],cs,bx,_,_=>by rw [aK];exact ⟨rfl,fun _ _=>rfl,fun k i c hk=>by simp at hk⟩
 |j::r,[],bx,_,h=>by simp at h
 |j::r,c::cs,bx,hn,h=>by
  rw [List.nodup_cons] at hn;rw [aB];obtain ⟨h1,h2,h3⟩:=lV (bx:=bx.set j c) hn.2 (by simpa using h);refine ⟨by rw [h1,List.length_set],fun i hi=>?_,fun k i c2 hk hc hl=>?_⟩
  ·rw [List.mem_cons,not_or] at hi;rw [h2 i hi.2,List.getElem?_set,if_neg (fun e=>hi.1 e.symm)]
  ·cases k with
   |zero=>
    simp at hk hc;subst hk hc;rw [h2 j hn.1,List.getElem?_set,if_pos rfl,if_pos hl]
   |succ k=>exact h3 k i c2 (by simpa using hk) (by simpa using hc) (by rw [List.length_set];exact hl)
theorem mem_iff {n:Nat}:∀{l:List Nat},mem n l=true↔n ∈ l
 |[]=>by simp [mem]
 |k::r=>by
  rw [mem];by_cases h:n=k
  ·subst h;rw [qF];simp
  ·rw [DF h];simp only [List.mem_cons,h,false_or];exact mem_iff
theorem yl {l r:List Nat}:ym l r=true↔∀i ∈ l,i ∈ r:=by
 unfold ym;rw [List.all_eq_true];constructor
 ·intro h i hi;exact mem_iff.1 (h i hi)
 ·intro h i hi;exact mem_iff.2 (h i hi)
theorem qV:∀(n:Nat) (bx:List (List AV)) (todo seen:List Nat),seen.Nodup->(reach n bx todo seen).Nodup
 |0,_,_,seen,h=>h
 |n+1,bx,[],seen,h=>h
 |n+1,bx,i::r,seen,h=>by
  rw [reach];split
  ·exact qV n bx r seen h
  ·rename_i hm;refine qV n bx _ _ ?_;rw [List.nodup_append];refine ⟨h,by simp,fun y hy z hz e=>?_⟩;rw [List.mem_singleton.1 hz] at e;subst e;rw [mem_iff.2 hy] at hm;cases hm
theorem Cu {ids bsc:List Nat} (hb:∀(k i b:Nat),ids[k]?=some i->bs[i]?=some b->bsc[k]?=some b) {l:List Nat} (hl:∀i ∈ l,i ∈ ids):∀i ∈ l,∀b,bs[i]?=some b->bsc[ids.idxOf i]?=some b:=
 fun i hi b h=>hb _ i b (NQ (hl i hi)) h
def mC (lim:Nat->Nat) (w:World) (bsc:List Nat) (cs:List (List AV)) (S:rE) (b:Nat):Prop:=b ∈ bsc∨(∃p,Own w bsc cs S p b)∨w.heap.size<=b
theorem Bv (bs ids:List Nat) (pK:∀i ∈ ids,i<bs.length) (k i b:Nat) (hk:ids[k]?=some i) (hb:bs[i]?=some b):(ids.map fun i=>bs.getD i 0)[k]?=some b:=by rw [List.getElem?_map,hk];simp [hb]
theorem aM.enter (H:aM lim bs w bx S m) {ids:List Nat} (hn:ids.Nodup) (hc:bn bx ids=some cs) (hcl:∀c ∈ cs,∀i ∈ AV.aN c,i ∈ ids) {args:List AV} {vs:List Value} (hl:vs.length=args.length) (uG:∀(k:Nat) (x:AV),args[k]?=some x->x.flat=true) (hR:∀(k:Nat) (x:AV) (v:Value),args[k]?=some x->vs[k]?=some v->AV.R lim (ids.map fun i=>bs.getD i 0) w x v):
  aM lim (ids.map fun i=>bs.getD i 0) w (cs.map (AV.aO ids.idxOf)) (aS args vs) (mC lim w (ids.map fun i=>bs.getD i 0) (cs.map (AV.aO ids.idxOf)) (aS args vs))∧(∀i j g,Own w (ids.map fun i=>bs.getD i 0) (cs.map (AV.aO ids.idxOf)) (aS args vs) (.b i j) g->∃i',ids[i]?=some i'∧Own w bs bx S (.b i' j) g)∧(∀k g,¬Own w (ids.map fun i=>bs.getD i 0) (cs.map (AV.aO ids.idxOf)) (aS args vs) (.t k) g)∧(∀b,b ∈ (ids.map fun i=>bs.getD i 0)↔∃i ∈ ids,bs[i]?=some b):=by
 obtain ⟨GH,hcg⟩:=lZ hc;have hin:∀i ∈ ids,i<bs.length:=by intro i hi;obtain ⟨k,hk,rfl⟩:=List.getElem_of_mem hi;obtain ⟨c,h1,-⟩:=hcg k _ (List.getElem?_eq_getElem hk);rw [H.len];exact (List.getElem?_eq_some_iff.1 h1).1
 have hmem:∀b,b ∈ (ids.map fun i=>bs.getD i 0)↔∃i ∈ ids,bs[i]?=some b:=by
  intro b;rw [List.mem_map];constructor
  ·rintro ⟨i,hi,rfl⟩;have:=hin i hi;exact ⟨i,hi,by simp [this]⟩
  ·rintro ⟨i,hi,hb⟩;exact ⟨i,hi,by simp [hb]⟩
 have hget:∀(k b:Nat),(ids.map fun i=>bs.getD i 0)[k]?=some b->∃i,ids[k]?=some i∧bs[i]?=some b:=by
  intro k b hk;rw [List.getElem?_map] at hk;cases hi:ids[k]? with
  |none=>rw [hi] at hk;cases hk
  |some i=>
   rw [hi] at hk;simp only [Option.map_some,Option.some.injEq] at hk;have hlt:=hin i (List.mem_of_getElem? hi);refine ⟨i,rfl,?_⟩;rw [←hk];simp [hlt]
 have JO:∀(k:Nat) (x:List AV),(cs.map (AV.aO ids.idxOf))[k]?=some x->∃c,cs[k]?=some c∧x=AV.aO ids.idxOf c:=by
  intro k x hk;rw [List.getElem?_map] at hk;cases hi:cs[k]? with
  |none=>rw [hi] at hk;cases hk
  |some c=>rw [hi] at hk;cases hk;exact ⟨c,rfl,rfl⟩
 have hsub:∀b,b ∈ (ids.map fun i=>bs.getD i 0)->b ∈ bs:=fun b hb=>by obtain ⟨i,-,h⟩:=(hmem b).1 hb;exact List.mem_of_getElem? h
 have oZ:∀k g,¬Own w (ids.map fun i=>bs.getD i 0) (cs.map (AV.aO ids.idxOf)) (aS args vs) (.t k) g:=by
  rintro k g ⟨h1,-⟩;have h1':(args.getD k .bad).isRow=true:=h1;rw [List.getD_eq_getElem?_getD] at h1';cases hx:args[k]? with
  |none=>rw [hx] at h1';cases h1'
  |some x=>
   rw [hx] at h1';have h2:x.isRow=true:=h1';rw [kZ (uG k x hx)] at h2;cases h2
 have yQ:∀i j g,Own w (ids.map fun i=>bs.getD i 0) (cs.map (AV.aO ids.idxOf)) (aS args vs) (.b i j) g->∃i',ids[i]?=some i'∧Own w bs bx S (.b i' j) g:=by
  rintro i j g ⟨b,x,y,v,q1,q2,q3,q4,q5,q6⟩;obtain ⟨i',h1,h2⟩:=hget i b q1;obtain ⟨c,h3,h4⟩:=hcg i i' h1;obtain ⟨c',h5,h6⟩:=JO i x q2;rw [h4] at h5;cases h5;subst h6;rw [AV.si,List.getElem?_map] at q3;cases hy:c[j]? with
  |none=>rw [hy] at q3;cases q3
  |some y'=>
   rw [hy] at q3;simp only [Option.map_some,Option.some.injEq] at q3;subst q3;rw [AV.lY] at q4;exact ⟨i',h1,b,c,y',v,h2,h3,hy,q4,q5,q6⟩
 refine ⟨⟨by rw [List.length_map,List.length_map,GH],?_,fun b hb=>H.free b (hsub b hb),fun b hb=> .inl hb,fun k b x hk hx=>?_,fun k=>?_,fun k=>?_,H.top,fun p g hp=>⟨.inr (.inl ⟨p,hp⟩),fun hb=>?_⟩,fun p q g hp hq=>?_⟩,yQ,oZ,hmem⟩
 ·rw [List.nodup_iff_pairwise_ne,List.pairwise_iff_getElem];intro i j hi hj hij e;have h1:=hget i _ (List.getElem?_eq_getElem hi);have h2:=hget j _ (List.getElem?_eq_getElem hj);obtain ⟨i1,a1,a2⟩:=h1;obtain ⟨j1,b1,b2⟩:=h2;rw [←e] at b2;have:=eX H.xV a2 b2;subst this;have:=eX hn a1 b1;omega
 ·obtain ⟨i,h1,h2⟩:=hget k b hk;obtain ⟨c,h3,h4⟩:=hcg k i h1;obtain ⟨c',h5,h6⟩:=JO k x hx;rw [h4] at h5;cases h5;subst h6;obtain ⟨C,tl,t,g1,g2,g3⟩:=H.box i b c h2 h3;refine ⟨C,tl,t,g1,AV.Rs.bK (Cu (fun k' i' b' e1 e2=>Bv bs ids hin k' i' b' e1 e2) (hcl c (List.mem_of_getElem? h4))) g2,?_⟩;rw [AV.si,List.all_map,List.all_eq_true];rw [List.all_eq_true] at g3;intro y hy;show (y.bK _).top=true;rw [AV.vP];exact g3 y hy
 ·show AV.R lim _ w (args.getD k .bad) (vs.getD k undef);rw [List.getD_eq_getElem?_getD,List.getD_eq_getElem?_getD];cases hx:args[k]? with
  |none=>exact lh _
  |some x=>
   have hlt:k<vs.length:=by rw [hl];exact (List.getElem?_eq_some_iff.1 hx).1
   rw [List.getElem?_eq_getElem hlt];exact hR k x _ hx (List.getElem?_eq_getElem hlt)
 ·show (args.getD k .bad).top=true;rw [List.getD_eq_getElem?_getD];cases hx:args[k]? with
  |none=>rfl
  |some x=>
   show x.top=true;rw [AV.top,uG k x hx];simp
 ·cases p with
  |t k=>exact oZ k g hp
  |b i j=>
   obtain ⟨i',-,ho⟩:=yQ i j g hp;exact (H.own _ _ ho).2 (hsub g hb)
 ·cases p with
  |t k=>exact absurd hp (oZ k g)
  |b i j=>
   cases q with
   |t k=>exact absurd hq (oZ k g)
   |b i2 j2=>
    obtain ⟨i',h1,ho⟩:=yQ i j g hp;obtain ⟨i2',h2,ho2⟩:=yQ i2 j2 g hq;have:=H.nK _ _ g ho ho2;cases this;have:=eX hn h1 h2;rw [this]
theorem Jh {f:Nat->Nat} {l:List AV} {j:Nat} {y:AV} (h:(AV.aO f l)[j]?=some y):∃z,l[j]?=some z∧y=z.bK f:=by
 rw [AV.si,List.getElem?_map] at h;cases hy:l[j]? with
 |none=>rw [hy] at h;cases h
 |some z=>rw [hy] at h;cases h;exact ⟨z,rfl,rfl⟩
theorem EG {f:Nat->Nat} {l:List AV} (h:l.all AV.top=true):(AV.aO f l).all AV.top=true:=by rw [AV.si,List.all_map,List.all_eq_true];rw [List.all_eq_true] at h;intro y hy;show (y.bK _).top=true;rw [AV.vP];exact h y hy
theorem aM.leave (H:aM lim bs w bx S m) (hm:∀b,w.heap.size<=b->m b) {ids:List Nat} (hn:ids.Nodup) (hc:bn bx ids=some cs) {bx':List (List AV)} (hlen:ids.length<=bx'.length) {r:AV} {v:Value} {Sc:rE} {bsc bsn:List Nat} (ak6:bsc=ids.map fun i=>bs.getD i 0) (hpre:∀i,i<ids.length->bsn[i]?=bsc[i]?)
  (yQ:∀i j g,Own w bsc (cs.map (AV.aO ids.idxOf)) Sc (.b i j) g->∃i',ids[i]?=some i'∧Own w bs bx S (.b i' j) g) (oZ:∀k g,¬Own w bsc (cs.map (AV.aO ids.idxOf)) Sc (.t k) g) (hmem:∀b,b ∈ bsc↔∃i ∈ ids,bs[i]?=some b)
  (H':aM lim' bsn w' bx' (rS r v) (mC lim w bsc (cs.map (AV.aO ids.idxOf)) Sc)) (hfr:Fr (mC lim w bsc (cs.map (AV.aO ids.idxOf)) Sc) lim w lim' w') (d:Option Nat):
  aM lim' (bs++bsn.drop ids.length) w' (aB bx ids ((bx'.take ids.length).map (AV.aO (ic ids bx.length)))++(bx'.drop ids.length).map (AV.aO (ic ids bx.length))) (U4 S d (r.bK (ic ids bx.length),v)) m∧Fr m lim w lim' w':=by
 subst ak6;obtain ⟨hcl,hcg⟩:=lZ hc;obtain ⟨NB,hNB⟩:∃l,l=(bx'.take ids.length).map (AV.aO (ic ids bx.length)):=⟨_,rfl⟩;rw [←hNB];have alb:NB.length=ids.length:=by rw [hNB,List.length_map,List.length_take];omega
 have alc:∀(k:Nat) (c:List AV),NB[k]?=some c->∃c',bx'[k]?=some c'∧c=AV.aO (ic ids bx.length) c':=by
  intro k c hk;rw [hNB,List.getElem?_map] at hk;cases hh:(bx'.take ids.length)[k]? with
  |none=>rw [hh] at hk;cases hk
  |some c'=>
   rw [hh] at hk;cases hk;rw [List.getElem?_take] at hh;split at hh
   ·exact ⟨c',hh,rfl⟩
   ·cases hh
 obtain ⟨hs1,hs2,hs3⟩:=lV (bx:=bx) hn alb;have hin:∀i ∈ ids,i<bs.length:=by intro i hi;obtain ⟨k,hk,rfl⟩:=List.getElem_of_mem hi;obtain ⟨c,h1,-⟩:=hcg k _ (List.getElem?_eq_getElem hk);rw [H.len];exact (List.getElem?_eq_some_iff.1 h1).1
 have hsub:∀b,b ∈ (ids.map fun i=>bs.getD i 0)->b ∈ bs:=fun b hb=>by obtain ⟨i,-,h⟩:=(hmem b).1 hb;exact List.mem_of_getElem? h
 have hnl:bsn.length=bx'.length:=H'.len;have hun:∀(j b:Nat),bsn[j]?=some b->(bs++bsn.drop ids.length)[ic ids bx.length j]?=some b:=by
  intro j b hj;unfold ic;cases hi:ids[j]? with
  |some i=>
   have hjl:j<ids.length:=(List.getElem?_eq_some_iff.1 hi).1;rw [hpre j hjl,List.getElem?_map,hi] at hj;simp only [Option.map_some,Option.some.injEq] at hj;have hlt:=hin i (List.mem_of_getElem? hi);simp only [];rw [List.getElem?_append_left hlt,←hj];simp [hlt]
  |none=>
   have hjl:ids.length<=j:=List.getElem?_eq_none_iff.1 hi;simp only [];rw [List.getElem?_append_right (by rw [H.len];omega),List.getElem?_drop,H.len];rw [show ids.length+(bx.length+(j-ids.length)-bx.length)=j by omega];exact hj
 have hmC:∀b,b<w.heap.size->mC lim w (ids.map fun i=>bs.getD i 0) (cs.map (AV.aO ids.idxOf)) Sc b->m b:=by
  intro b hb hmc;rcases hmc with h|⟨p,hp⟩|h
  ·exact H.mb b (hsub b h)
  ·cases p with
   |t k=>exact absurd hp (oZ k b)
   |b i j=>obtain ⟨i',-,ho⟩:=yQ i j b hp;exact (H.own _ _ ho).1
  ·omega
 have agO:∀b,mC lim w (ids.map fun i=>bs.getD i 0) (cs.map (AV.aO ids.idxOf)) Sc b->m b:=fun b h=>by
  rcases Nat.lt_or_ge b w.heap.size with h'|h'
  ·exact hmC b h' h
  ·exact hm b h'
 have agV:Fr m lim w lim' w':=hfr.aU hmC;have agT:∀(i b:Nat),bs[i]?=some b->(bs++bsn.drop ids.length)[i]?=some b:=fun i b h=>by rw [List.getElem?_append_left (List.getElem?_eq_some_iff.1 h).1];exact h
 have mW:AV.Ext lim bs w lim' (bs++bsn.drop ids.length) w':=agV.ext agT;have om:∀p g,Own w bs bx S p g->(∀i j,p=.b i j->i ∉ ids)->¬mC lim w (ids.map fun i=>bs.getD i 0) (cs.map (AV.aO ids.idxOf)) Sc g:=by
  intro p g hp hpi hmc;rcases hmc with h|⟨q,hq⟩|h
  ·exact (H.own p g hp).2 (hsub g h)
  ·cases q with
   |t k=>exact absurd hq (oZ k g)
   |b i j=>
    obtain ⟨i',h1,ho⟩:=yQ i j g hq;have:=H.nK p _ g hp ho;exact hpi i' j this (List.mem_of_getElem? h1)
  ·exact absurd (Own.lt H hp) oM
 have Tn:∀i b,i ∉ ids->bs[i]?=some b->¬mC lim w (ids.map fun i=>bs.getD i 0) (cs.map (AV.aO ids.idxOf)) Sc b:=by
  intro i b hi hb hmc;have hbm:=List.mem_of_getElem? hb;rcases hmc with h|⟨q,hq⟩|h
  ·obtain ⟨i2,h1,h2⟩:=(hmem b).1 h;have:=eX H.xV hb h2;subst this;exact hi h1
  ·cases q with
   |t k=>exact absurd hq (oZ k b)
   |b i2 j=>
    obtain ⟨i',h1,ho⟩:=yQ i2 j b hq;exact (H.own _ _ ho).2 hbm
  ·exact absurd (jX H hbm) oM
 have agK:∀b,b ∈ bsn.drop ids.length->b ∉ bs:=by
  intro b hb hbs;obtain ⟨k,hk,rfl⟩:=List.getElem_of_mem hb;have hk2:bsn[ids.length+k]?=some ((bsn.drop ids.length)[k]):=by rw [←List.getElem?_drop];exact List.getElem?_eq_getElem hk
  rcases H'.mb _ (List.mem_of_getElem? hk2) with h|⟨q,hq⟩|h
  ·obtain ⟨k0,h0,e⟩:=List.getElem_of_mem h;have hk0:k0<ids.length:=by simpa using h0
   have:bsn[k0]?=some ((bsn.drop ids.length)[k]):=by rw [hpre k0 hk0,List.getElem?_eq_getElem h0,e]
   have:=eX H'.xV hk2 this;omega
  ·cases q with
   |t k=>exact absurd hq (oZ k _)
   |b i2 j=>
    obtain ⟨i',h1,ho⟩:=yQ i2 j _ hq;exact (H.own _ _ ho).2 hbs
  ·exact absurd (jX H hbs) oM
 have hcase:∀(i b:Nat) (x:List AV),(bs++bsn.drop ids.length)[i]?=some b->(aB bx ids NB++(bx'.drop ids.length).map (AV.aO (ic ids bx.length)))[i]?=some x->
   (∃j c,ic ids bx.length j=i∧bsn[j]?=some b∧bx'[j]?=some c∧x=AV.aO (ic ids bx.length) c∧(j<ids.length∨i=bx.length+(j-ids.length)))∨(i ∉ ids∧bs[i]?=some b∧bx[i]?=some x):=by
  intro i b x hb hx;rcases Nat.lt_or_ge i bx.length with hi|hi
  ·rw [List.getElem?_append_left (by rw [H.len];exact hi)] at hb;rw [List.getElem?_append_left (by rw [hs1];exact hi)] at hx;by_cases hii:i ∈ ids
   ·obtain ⟨k,hk,hki⟩:=List.getElem_of_mem hii;have hk2:ids[k]?=some i:=by rw [←hki];exact List.getElem?_eq_getElem hk
    rw [hs3 k i (NB[k]'oM) hk2 (List.getElem?_eq_getElem oM) hi] at hx;cases hx;obtain ⟨c',h1,h2⟩:=alc k _ (List.getElem?_eq_getElem oM);refine .inl ⟨k,c',by unfold ic;rw [hk2],?_,h1,h2,.inl hk⟩;rw [hpre k hk,List.getElem?_map,hk2];simp [hb]
   ·rw [hs2 i hii] at hx;exact .inr ⟨hii,hb,hx⟩
  ·rw [List.getElem?_append_right (by rw [H.len];exact hi),List.getElem?_drop,H.len] at hb;rw [List.getElem?_append_right (by rw [hs1];exact hi),hs1,List.getElem?_map,List.getElem?_drop] at hx;cases hh:bx'[ids.length+(i-bx.length)]? with
   |none=>rw [hh] at hx;cases hx
   |some c=>
    rw [hh] at hx;cases hx;refine .inl ⟨ids.length+(i-bx.length),c,?_,hb,hh,rfl,.inr oM⟩;unfold ic;rw [List.getElem?_eq_none oM];simp only [];omega
 have hinj:∀j k,j<bsn.length->k<bsn.length->ic ids bx.length j=ic ids bx.length k->j=k:=by intro j k hj hk e;have h1:=hun j _ (List.getElem?_eq_getElem hj);have h2:=hun k _ (List.getElem?_eq_getElem hk);rw [e,h2] at h1;simp only [Option.some.injEq] at h1;exact eX H'.xV (List.getElem?_eq_getElem hj) (by rw [List.getElem?_eq_getElem hk,h1])
 have hcls:∀p g,Own w' (bs++bsn.drop ids.length) (aB bx ids NB++(bx'.drop ids.length).map (AV.aO (ic ids bx.length))) (U4 S d (r.bK (ic ids bx.length),v)) p g->(∃q,Own w' bsn bx' (rS r v) q g∧((∃k,d=some k∧p=.t k∧q=.t 0)∨∃k j,k<bsn.length∧p=.b (ic ids bx.length k) j∧q=.b k j))∨(Own w bs bx S p g∧¬mC lim w (ids.map fun i=>bs.getD i 0) (cs.map (AV.aO ids.idxOf)) Sc g):=by
  intro p g hp;cases p with
  |t k=>
   have hold:∀(h:Own w bs bx S (.t k) g),(∃q,Own w' bsn bx' (rS r v) q g∧((∃k',d=some k'∧Loc.t k=.t k'∧q=.t 0)∨∃k' j,k'<bsn.length∧Loc.t k=.b (ic ids bx.length k') j∧q=.b k' j))∨(Own w bs bx S (.t k) g∧¬mC lim w (ids.map fun i=>bs.getD i 0) (cs.map (AV.aO ids.idxOf)) Sc g):=fun h=> .inr ⟨h,om _ g h (fun i j e=>by cases e)⟩;cases d with
   |none=>exact hold hp
   |some dk=>
    obtain ⟨p1,p2⟩:=hp;have E8:(up S dk (r.bK (ic ids bx.length),v) k).1.isRow=true:=p1;have U7:(up S dk (r.bK (ic ids bx.length),v) k).2.ownBlock=some g:=p2;unfold up at E8 U7;by_cases e:k=dk
    ·rw [if_pos e] at E8 U7;exact .inl ⟨.t 0,⟨by rw [AV.lY] at E8;exact E8,U7⟩,.inl ⟨dk,rfl,by rw [e],rfl⟩⟩
    ·rw [if_neg e] at E8 U7;exact hold ⟨E8,U7⟩
  |b i j=>
   obtain ⟨b,x,y,u,q1,q2,q3,q4,q5,q6⟩:=hp;rcases hcase i b x q1 q2 with ⟨k,c,e1,e2,e3,e4,-⟩|⟨hi,e1,e2⟩
   ·subst e4;obtain ⟨z,hz,rfl⟩:=Jh q3;rw [AV.lY] at q4;exact .inl ⟨.b k j,⟨b,c,z,u,e2,e3,hz,q4,q5,q6⟩,.inr ⟨k,j,(List.getElem?_eq_some_iff.1 e2).1,by rw [e1],rfl⟩⟩
   ·have hnb:=Tn i b hi e1;have hsame:=(hfr.mE b (jX H (List.mem_of_getElem? e1)) hnb).1;have ho:Own w bs bx S (.b i j) g:=⟨b,x,y,u,e1,e2,q3,q4,by rw [←World.cell?_of_block (w':=w') hsame];exact q5,q6⟩;exact .inr ⟨ho,om _ g ho (fun i2 j2 e=>by cases e;exact hi)⟩
 have abn:∀q g,Own w' bsn bx' (rS r v) q g->m g∧g ∉ bs++bsn.drop ids.length:=by
  intro q g hq;obtain ⟨h1,h2⟩:=H'.own q g hq;have hd2:g ∉ bsn.drop ids.length:=fun h=>h2 (List.mem_of_mem_drop h);refine ⟨agO g h1,fun hh=>?_⟩;rcases List.mem_append.1 hh with hh|hh
  ·rcases h1 with h|⟨p,hp⟩|h
   ·
    obtain ⟨k0,h0,e⟩:=List.getElem_of_mem h;have hk0:k0<ids.length:=by simpa using h0
    exact h2 (List.mem_of_getElem? (show bsn[k0]?=some g by rw [hpre k0 hk0,List.getElem?_eq_getElem h0,e]))
   ·cases p with
    |t k=>exact absurd hp (oZ k g)
    |b i j=>obtain ⟨i',-,ho⟩:=yQ i j g hp;exact (H.own _ _ ho).2 hh
   ·have:=jX H hh;omega
  ·exact hd2 hh
 refine ⟨⟨?_,?_,fun b hb=>?_,fun b hb=>?_,fun i b x hi hx=>?_,fun k=>?_,fun k=>?_,H'.top,fun p g hp=>?_,fun p q g hp hq=>?_⟩,agV⟩
 ·rw [List.length_append,List.length_append,hs1,H.len,List.length_map,List.length_drop,List.length_drop,hnl]
 ·rw [List.nodup_append];exact ⟨H.xV,H'.xV.sublist (List.drop_sublist _ _),fun x hx y hy e=>agK y hy (e▸hx)⟩
 ·rcases List.mem_append.1 hb with hb|hb
  ·by_cases hbi:b ∈ (ids.map fun i=>bs.getD i 0)
   ·obtain ⟨k0,h0,e⟩:=List.getElem_of_mem hbi;have hk0:k0<ids.length:=by simpa using h0
    exact H'.free b (List.mem_of_getElem? (show bsn[k0]?=some b by rw [hpre k0 hk0,List.getElem?_eq_getElem h0,e]))
   ·obtain ⟨i,hi,rfl⟩:=List.getElem_of_mem hb;have hnot:i ∉ ids:=fun h=>hbi ((hmem _).2 ⟨i,h,List.getElem?_eq_getElem hi⟩);have:=Tn i _ hnot (List.getElem?_eq_getElem hi);rw [(hfr.mE _ (jX H hb) this).2];exact H.free _ hb
  ·exact H'.free b (List.mem_of_mem_drop hb)
 ·rcases List.mem_append.1 hb with hb|hb
  ·exact H.mb b hb
  ·exact agO b (H'.mb b (List.mem_of_mem_drop hb))
 ·rcases hcase i b x hi hx with ⟨k,c,e1,e2,e3,e4,-⟩|⟨hii,e1,e2⟩
  ·subst e4;obtain ⟨C,tl,t,g1,g2,g3⟩:=H'.box k b c e2 e3;exact ⟨C,tl,t,g1,AV.Rs.bK (fun j _ b2 hb2=>hun j b2 hb2) g2,EG g3⟩
  ·have hnb:=Tn i b hii e1;obtain ⟨C,tl,t,g1,g2,g3⟩:=H.box i b x e1 e2;have hkeep:=hfr.mE b (di g1) hnb;refine ⟨C,tl,t,hkeep.1.trans g1,mU mW g3 (fun j y u g hy hu hr hg=>?_) g2,g3⟩;have ho:Own w bs bx S (.b i j) g:=⟨b,x,y,u,e1,e2,hy,hr,dP g1 hu,hg⟩;exact hfr.mE g (Own.lt H ho) (om _ g ho (fun i2 j2 e=>by cases e;exact hii))
 ·have hS:∀k,AV.R lim' (bs++bsn.drop ids.length) w' (S k).1 (S k).2:=fun k=>AV.R.mE mW (H.jm k) (fun g h1 h2=>hfr.mE g (Own.lt H (p:=.t k) ⟨h1,h2⟩) (om (.t k) g ⟨h1,h2⟩ (fun i j e=>by cases e))) (H.slot k);cases d with
  |none=>exact hS k
  |some dk=>
   show AV.R lim' _ w' (up S dk (r.bK _,v) k).1 (up S dk (r.bK _,v) k).2;unfold up;split
   ·exact AV.R.bK (fun j _ b2 hb2=>hun j b2 hb2) (H'.slot 0)
   ·exact hS k
 ·cases d with
  |none=>exact H.jm k
  |some dk=>
   show (up S dk (r.bK _,v) k).1.top=true;unfold up;split
   ·show (r.bK _).top=true;rw [AV.vP];exact H'.jm 0
   ·exact H.jm k
 ·rcases hcls p g hp with ⟨q,hq,-⟩|⟨ho,n1⟩
  ·exact abn q g hq
  ·refine ⟨(H.own p g ho).1,fun hh=>?_⟩;rcases List.mem_append.1 hh with hh|hh
   ·exact (H.own p g ho).2 hh
   ·exact n1 (H'.mb g (List.mem_of_mem_drop hh))
 ·rcases hcls p g hp with ⟨p',hp',e1⟩|⟨ho,n1⟩
  ·rcases hcls q g hq with ⟨q',hq',e2⟩|⟨ho2,n2⟩
   ·have:=H'.nK p' q' g hp' hq';subst this;rcases e1 with ⟨k,a1,a2,a3⟩|⟨k,j,a1,a2,a3⟩
    ·rcases e2 with ⟨k2,b1,b2,b3⟩|⟨k2,j2,b1,b2,b3⟩
     ·rw [a1] at b1;cases b1;rw [a2,b2]
     ·rw [a3] at b3;cases b3
    ·rcases e2 with ⟨k2,b1,b2,b3⟩|⟨k2,j2,b1,b2,b3⟩
     ·rw [a3] at b3;cases b3
     ·rw [a3] at b3;cases b3;rw [a2,b2]
   ·exact absurd (H'.own p' g hp').1 n2
  ·rcases hcls q g hq with ⟨q',hq',e2⟩|⟨ho2,n2⟩
   ·exact absurd (H'.own q' g hq').1 n1
   ·exact H.nK p q g ho ho2
theorem nC (H:aM lim bs w bx (Sl σ.tm a) m) (x:Operand):Av lim bs w (val σ.tm x) (a.eval x)∧((val σ.tm x).isRow=true->∃t,x=.tmp t∧val σ.tm x=get σ.tm t):=by
 cases x with
 |tmp t=>exact ⟨⟨H.slot t,H.jm t⟩,fun _=>⟨t,rfl,rfl⟩⟩
 |const v=>
  have key:AV.R lim bs w (TZ v) v∧(TZ v).top=true∧(TZ v).isRow=false:=by
   unfold TZ;split
   ·exact ⟨by rw [AV.R],rfl,rfl⟩
   ·exact ⟨by rw [AV.R],rfl,rfl⟩
   ·exact ⟨by rw [AV.R],rfl,rfl⟩
   ·exact ⟨by rw [AV.R],rfl,rfl⟩
   ·exact ⟨lh _,rfl,rfl⟩
  exact ⟨⟨key.1,key.2.1⟩,fun h=>by rw [show val σ.tm (.const v)=TZ v from rfl,key.2.2] at h;cases h⟩
 |func f=>
  refine ⟨⟨?_,rfl⟩,fun h=>by cases h⟩;show AV.R lim bs w (.fn f []) _;rw [AV.R];exact ⟨#[],rfl,by rw [AV.Rs]⟩
 |global g=>exact ⟨⟨lh _,rfl⟩,fun h=>by cases h⟩
theorem nN (H:aM lim bs w bx (Sl σ.tm a) m):∀(l:List Operand),AV.Rs lim bs w ((l.map (val σ.tm)).map AV.bY) (l.map a.eval)∧AV.ak ((l.map (val σ.tm)).map AV.bY)=true
 |[]=>⟨by rw [List.map_nil,List.map_nil,List.map_nil,AV.Rs],rfl⟩
 |x::l=>by obtain ⟨h1,h2⟩:=nN H l;have hv:=(nC H x).1;simp only [List.map_cons] at h1 h2⊢;rw [AV.Rs,AV.ak,hv.flat,h2];exact ⟨⟨_,_,rfl,hv.r.bY,h1⟩,rfl⟩
theorem UX (H:aM lim bs w bx (Sl σ.tm a) m):∀(l:List (Nat×Operand)),Ps lim bs w (qm (val σ.tm) l) (l.map fun p=>(p.1,a.eval p.2))
 |[]=> .nil
 |(i,x)::l=> .cons (nC H x).1 (UX H l)
theorem PG (HC:eT P cal) (H:aM lim bs w σ.bx (Sl σ.tm a) m) (hm:∀b,w.heap.size<=b->m b) (hd:∀k,o.dst=some k->k<a.tmps.size) {c:Call} {f:Operand} (ho:o.op=.call c) (hc:c.callee=.value f) {ids:List Nat} (hnd:ids.Nodup) (hcs:bn σ.bx ids=some cs)
  (h:FK cal ids σ.bx.length (val σ.tm f) (c.args.toList.map (val σ.tm)) cs=some out) (hok:out.ok=true) (hK:vM m lim bs w a (fin o.dst out ids [] σ) K):o.wp P a w K Q:=by
 unfold FK at h;split at h
 ·rename_i g cap hf;split at h
  ·rename_i hk;obtain ⟨k1,k2,k3⟩:=hk;split at h
   ·rename_i r bx' AY;cases h;have XP:ids.length<=bx'.length:=by have h1:=hok;simp only [Bool.and_eq_true,decide_eq_true_eq] at h1;exact h1.1
    obtain ⟨H5,-,hcall⟩:=HC g _ _ r bx' AY;have hfr:=(nC H f).1.r;rw [hf,AV.R] at hfr;obtain ⟨vc,hfe,hcap⟩:=hfr;obtain ⟨hargs,uG⟩:=nN H c.args.toList;obtain ⟨ys,hys⟩:∃ys,ys=(c.args.toList.map (val σ.tm)).map AV.bY++cap:=⟨_,rfl⟩;rw [←hys] at AY hcall k2;have hall:AV.Rs lim bs w ys (c.args.toList.map a.eval++vc.toList):=by rw [hys];exact kP hargs hcap
    have Wu:AV.ak ys=true:=by rw [hys];exact dX uG k1
    have amU:=AV.fB hall;rw [yl] at k2;rw [List.all_eq_true] at k3;obtain ⟨hcl,hcg⟩:=lZ hcs;have hin:∀i ∈ ids,i<bs.length:=by intro i hi;obtain ⟨k,hk,rfl⟩:=List.getElem_of_mem hi;obtain ⟨c2,h1,-⟩:=hcg k _ (List.getElem?_eq_getElem hk);rw [H.len];exact (List.getElem?_eq_some_iff.1 h1).1
    have AA:AV.Rs lim (ids.map fun i=>bs.getD i 0) w (AV.aO ids.idxOf ys) (c.args.toList.map a.eval++vc.toList):=AV.Rs.bK (Cu (fun k i b e1 e2=>Bv bs ids hin k i b e1 e2) k2) hall;have kX:(c.args.toList.map a.eval++vc.toList).length=(AV.aO ids.idxOf ys).length:=AV.fB AA;have yN:∀(k:Nat) (x:AV) (v:Value),(AV.aO ids.idxOf ys)[k]?=some x->(c.args.toList.map a.eval++vc.toList)[k]?=some v->AV.R lim (ids.map fun i=>bs.getD i 0) w x v:=by intro k x v hk hv;obtain ⟨v',h1,h2⟩:=kU AA hk;rw [hv] at h1;cases h1;exact h2
    have yO:∀(k:Nat) (x:AV),(AV.aO ids.idxOf ys)[k]?=some x->x.flat=true:=fun k x hk=>eH (by rw [AV.kC];exact Wu) hk;obtain ⟨HE,hE1,hE2,Xc⟩:=H.enter hnd hcs (fun c hc i hi=>yl.1 (k3 c hc) i hi) (args:=AV.aO ids.idxOf ys) (vs:=c.args.toList.map a.eval++vc.toList) kX yO yN;have hrun:(execOp a.eval o).run P w=.ok (.enter g (c.args.map a.eval++vc)) w:=by unfold execOp;simp only [ho,resolve,hc,hfe,Deferred.ofValue,Sem.run_bind,Sem.run_pure,Result.andThen_ok,invoke,Array.empty_append];exact mP H5 _
    have hvs:(c.args.toList.map a.eval++vc.toList).toArray=c.args.map a.eval++vc:=by rw [←Array.toList_inj];simp
    unfold Oper.wp;rw [hrun];show Calls P g (c.args.map a.eval++vc) w _;rw [←hvs];refine (hcall lim _ w _ _ kX (fun b hb=> .inr (.inr hb)) HE).mono ?_;rintro e w' ⟨v,lim',bsn,rfl,H',GD,hpre⟩;obtain ⟨HL,hfl⟩:=H.leave hm hnd hcs XP rfl (fun i hi=>hpre i (by rw [List.length_map,hcl];exact hi)) hE1 hE2 Xc H' GD o.dst;refine hK lim' (bs++bsn.drop ids.length) w' _ ⟨?_,hfl,fun i b hi=>by rw [List.getElem?_append_left (List.getElem?_eq_some_iff.1 hi).1];exact hi,bL _ _ _,put_defers _ _ _⟩;show aM lim' _ w' _ (Sl (dW σ.tm o.dst (r.bK (ic ids σ.bx.length))) (a.put o.dst v)) m;rw [iE hd];exact HL
   ·cases h
  ·cases h
 ·cases h
end Ab
end Go.Proofs.YtlmjabnkjmfcmaaGreat
