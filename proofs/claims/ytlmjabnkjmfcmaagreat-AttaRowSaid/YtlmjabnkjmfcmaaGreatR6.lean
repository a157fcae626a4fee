/- Parts of a proof; no condition. -/
import Derived.Test.YtlmjabnkjmfcmaaGreatR4
import Derived.Test.YtlmjabnkjmfcmaaGreatR5
namespace Go.Proofs.YtlmjabnkjmfcmaaGreat
open Go Go.RowKit Go.PlainAid
set_option linter.unusedVariables false
set_option linter.unusedSimpArgs false
set_option linter.unusedSectionVars false
set_option maxHeartbeats 20000000
set_option linter.defProp false
section
variable [nM]
set_option maxRecDepth 100000
namespace Ab
theorem mZ {α:Type} {n:Nat} {v:α}:∀{l:List (Nat×α)},assoc l n=some v->(n,v) ∈ l
 |[],h=>by cases h
 |(k,u)::r,h=>by
  rw [assoc] at h;split at h
  ·rename_i e;cases h;rw [Nat.eq_of_beq_eq_true e];exact List.mem_cons_self
  ·exact List.mem_cons_of_mem _ (mZ h)
structure TY (P:Program) (t:Nat) (d:TD):Prop where
 und:∃u,P.underlying t=some u∧u.isRow=d.agg∧(∀e,d.elem=some e->u=.slice e)
 fld:d.agg=true->∃fs:Array Field,P.underlying t=some (.struct fs)∧fs.size=d.jG.length∧∀(f:Nat) (q:Nat×Nat×Bool),d.jG[f]?=some q->∃(fl:Field) (i:TypeInfo) (u:TypeDesc),fs[f]?=some fl∧fl.offset=q.1∧P.info? fl.type=some i∧i.size=q.2.1∧P.underlying fl.type=some u∧u.isRow=q.2.2
 off:d.agg=false->d.jG=[]
 info:∃(i:TypeInfo) (z:Value),P.info? t=some i∧i.size=d.size∧i.bytes=d.bytes∧i.zero=some z∧z.cells.size=d.size∧zrs d.zero z.cells.toList
theorem ag4 {P:Program} (h1:P.underlying 9=some .string) (h2:P.underlying 5=some (.int .u8)) (h3:P.underlying 3=some (.int .i64)) (h4:P.follows .mixedOrders=true) (h5:P.underlying 4=some .bool) (h6:∀(w:World) (a b:ByteArray) (n m:Int),(Op.equalIn 10000 56 (.agg #[.string a,.int .i64 n]) (.agg #[.string b,.int .i64 m])).run P w=.ok (decide (a=b∧n=m)) w) (h7:P.eqGuardType P.depth 56=false) (h:∀p ∈ tyL,TY P p.1 p.2):mM P jJ:=
 ⟨h1,h2,h3,h4,h5,h6,h7,fun t d ht=>(h _ (mZ ht)).und,fun t d ht=>(h _ (mZ ht)).fld,fun t d ht=>(h _ (mZ ht)).off,fun t d ht=>(h _ (mZ ht)).info⟩
theorem uD {fs:Array Field} {l:List (Nat×Nat×Bool)} {P:Program} (h:∀i,i<l.length->∃(fl:Field) (inf:TypeInfo) (u:TypeDesc),fs[i]?=some fl∧fl.offset=(l.getD i (0,0,false)).1∧P.info? fl.type=some inf∧inf.size=(l.getD i (0,0,false)).2.1∧P.underlying fl.type=some u∧u.isRow=(l.getD i (0,0,false)).2.2):∀(f:Nat) (q:Nat×Nat×Bool),l[f]?=some q->∃(fl:Field) (i:TypeInfo) (u:TypeDesc),fs[f]?=some fl∧fl.offset=q.1∧P.info? fl.type=some i∧i.size=q.2.1∧P.underlying fl.type=some u∧u.isRow=q.2.2:=by intro f q hq;have hl:=(List.getElem?_eq_some_iff.1 hq).1;have:=h f hl;rw [List.getD_eq_getElem?_getD,hq] at this;exact this
theorem amD (w:World) (a b:ByteArray) (n m:Int):(Op.equalIn 10000 56 (.agg #[.string a,.int .i64 n]) (.agg #[.string b,.int .i64 m])).run Tryz.prog w=.ok (decide (a=b∧n=m)) w:=by
 have h9:Tryz.prog.underlying 9=some .string:=rfl;have h3:Tryz.prog.underlying 3=some (.int .i64):=rfl;have p1:(part 9 #[Value.string a,.int .i64 n] 0).run Tryz.prog w=.ok (.string a) w:=rfl;have p2:(part 9 #[Value.string b,.int .i64 m] 0).run Tryz.prog w=.ok (.string b) w:=rfl;have p3:(part 3 #[Value.string a,.int .i64 n] 1).run Tryz.prog w=.ok (.int .i64 n) w:=rfl;have p4:(part 3 #[Value.string b,.int .i64 m] 1).run Tryz.prog w=.ok (.int .i64 m) w:=rfl;rw [run_equalIn_struct w 9999 56 _ _ rfl dK];obtain ⟨f1,f2,hf,n1,t1,o1,n2,t2,o2⟩:∃f1 f2:Field,(Tryz.prog.fieldsOf 56).toList=[f1,f2]∧f1.name≠ "_"∧f1.type=9∧f1.offset=0∧f2.name≠ "_"∧f2.type=3∧f2.offset=1:=⟨_,_,rfl,dE,rfl,rfl,dE,rfl,rfl⟩;rw [hf];simp only [Op.eqFields,if_pos n1,if_pos n2,t1,t2,o1,o2,Sem.run_bind,p1,p2,Result.andThen_ok,run_equalIn_string w 9998 9 a b h9];rw [Ru];by_cases hab:a=b
 ·rw [decide_eq_true hab];simp only [Bool.not_true,Bool.false_eq_true,if_false,Sem.run_bind,p3,p4,Result.andThen_ok,run_equalIn_int w 9998 3 .i64 .i64 n m h3];by_cases hnm:n=m
  ·subst hnm;simp [Op.eqFields,hab]
  ·have:(n==m)=false:=by simpa using hnm
   rw [this];simp [hnm]
 ·rw [decide_eq_false hab];simp [hab]
theorem V5 {p:Prop} (g:p:=by
 refine ⟨⟨_,rfl,rfl,fun e h=>?_⟩,fun h=>?_,fun h=>?_,⟨_,_,rfl,rfl,rfl,rfl,rfl,?_⟩⟩
 ·cases h
 ·cases h
 ·rfl
 ·iterate 1 refine Exists.intro _ (Exists.intro _ (And.intro rfl (And.intro rfl ?_)))
  rfl):p:=g
theorem Ro {p:Prop} (g:p:=by
 refine ⟨⟨_,rfl,rfl,fun e h=>?_⟩,fun h=>?_,fun h=>?_,⟨_,_,rfl,rfl,rfl,rfl,rfl,?_⟩⟩
 ·cases h;rfl
 ·cases h
 ·rfl
 ·iterate 1 refine Exists.intro _ (Exists.intro _ (And.intro rfl (And.intro rfl ?_)))
  rfl):p:=g
theorem abm {p:Prop} (g:p:=by
 refine ⟨⟨_,rfl,rfl,fun e h=>?_⟩,fun h=>?_,fun h=>?_,⟨_,_,rfl,rfl,rfl,rfl,rfl,?_⟩⟩
 ·cases h
 ·refine ⟨_,rfl,rfl,uD fun i hi=>?_⟩;rcases i with _|i
  ·exact ⟨_,_,_,rfl,rfl,rfl,rfl,rfl,rfl⟩
  rcases i with _|i
  ·exact ⟨_,_,_,rfl,rfl,rfl,rfl,rfl,rfl⟩
  exact absurd hi (by simp)
 ·cases h
 ·iterate 2 refine Exists.intro _ (Exists.intro _ (And.intro rfl (And.intro rfl ?_)))
  rfl):p:=g
theorem aiy {p:Prop} (g:p:=by
 refine ⟨⟨_,rfl,rfl,fun e h=>?_⟩,fun h=>?_,fun h=>?_,⟨_,_,rfl,rfl,rfl,rfl,rfl,?_⟩⟩
 ·cases h
 ·refine ⟨_,rfl,rfl,uD fun i hi=>?_⟩;rcases i with _|i
  ·exact ⟨_,_,_,rfl,rfl,rfl,rfl,rfl,rfl⟩
  rcases i with _|i
  ·exact ⟨_,_,_,rfl,rfl,rfl,rfl,rfl,rfl⟩
  rcases i with _|i
  ·exact ⟨_,_,_,rfl,rfl,rfl,rfl,rfl,rfl⟩
  rcases i with _|i
  ·exact ⟨_,_,_,rfl,rfl,rfl,rfl,rfl,rfl⟩
  rcases i with _|i
  ·exact ⟨_,_,_,rfl,rfl,rfl,rfl,rfl,rfl⟩
  exact absurd hi (by simp)
 ·cases h
 ·iterate 16 refine Exists.intro _ (Exists.intro _ (And.intro rfl (And.intro rfl ?_)))
  rfl):p:=g
theorem aix {p:Prop} (g:p:=by
 refine ⟨⟨_,rfl,rfl,fun e h=>?_⟩,fun h=>?_,fun h=>?_,⟨_,_,rfl,rfl,rfl,rfl,rfl,?_⟩⟩
 ·cases h
 ·refine ⟨_,rfl,rfl,uD fun i hi=>?_⟩;rcases i with _|i
  ·exact ⟨_,_,_,rfl,rfl,rfl,rfl,rfl,rfl⟩
  rcases i with _|i
  ·exact ⟨_,_,_,rfl,rfl,rfl,rfl,rfl,rfl⟩
  rcases i with _|i
  ·exact ⟨_,_,_,rfl,rfl,rfl,rfl,rfl,rfl⟩
  rcases i with _|i
  ·exact ⟨_,_,_,rfl,rfl,rfl,rfl,rfl,rfl⟩
  rcases i with _|i
  ·exact ⟨_,_,_,rfl,rfl,rfl,rfl,rfl,rfl⟩
  exact absurd hi (by simp)
 ·cases h
 ·iterate 5 refine Exists.intro _ (Exists.intro _ (And.intro rfl (And.intro rfl ?_)))
  rfl):p:=g
theorem aiw {p:Prop} (g:p:=by
 refine ⟨⟨_,rfl,rfl,fun e h=>?_⟩,fun h=>?_,fun h=>?_,⟨_,_,rfl,rfl,rfl,rfl,rfl,?_⟩⟩
 ·cases h
 ·refine ⟨_,rfl,rfl,uD fun i hi=>?_⟩;rcases i with _|i
  ·exact ⟨_,_,_,rfl,rfl,rfl,rfl,rfl,rfl⟩
  rcases i with _|i
  ·exact ⟨_,_,_,rfl,rfl,rfl,rfl,rfl,rfl⟩
  rcases i with _|i
  ·exact ⟨_,_,_,rfl,rfl,rfl,rfl,rfl,rfl⟩
  exact absurd hi (by simp)
 ·cases h
 ·iterate 3 refine Exists.intro _ (Exists.intro _ (And.intro rfl (And.intro rfl ?_)))
  rfl):p:=g
theorem tok:mM Tryz.prog jJ:=by
 refine ag4 rfl rfl rfl rfl rfl amD dK ?_;simp only [tyL,List.forall_mem_cons];refine ⟨?_,?_,?_,?_,?_,?_,?_,?_,?_,?_,?_,?_,?_,?_,?_,?_,?_,?_,?_,?_,?_,?_,?_,?_,?_,?_,fun p hp=>by cases hp⟩
 ·exact V5
 ·exact V5
 ·exact V5
 ·exact V5
 ·exact V5
 ·exact V5
 ·exact Ro
 ·exact Ro
 ·exact Ro
 ·exact Ro
 ·exact Ro
 ·exact Ro
 ·exact Ro
 ·exact abm
 ·refine ⟨⟨_,rfl,rfl,fun e h=>?_⟩,fun h=>?_,fun h=>?_,⟨_,_,rfl,rfl,rfl,rfl,rfl,?_⟩⟩
  ·cases h
  ·refine ⟨_,rfl,rfl,uD fun i hi=>?_⟩;rcases i with _|i
   ·exact ⟨_,_,_,rfl,rfl,rfl,rfl,rfl,rfl⟩
   rcases i with _|i
   ·exact ⟨_,_,_,rfl,rfl,rfl,rfl,rfl,rfl⟩
   rcases i with _|i
   ·exact ⟨_,_,_,rfl,rfl,rfl,rfl,rfl,rfl⟩
   rcases i with _|i
   ·exact ⟨_,_,_,rfl,rfl,rfl,rfl,rfl,rfl⟩
   rcases i with _|i
   ·exact ⟨_,_,_,rfl,rfl,rfl,rfl,rfl,rfl⟩
   rcases i with _|i
   ·exact ⟨_,_,_,rfl,rfl,rfl,rfl,rfl,rfl⟩
   rcases i with _|i
   ·exact ⟨_,_,_,rfl,rfl,rfl,rfl,rfl,rfl⟩
   rcases i with _|i
   ·exact ⟨_,_,_,rfl,rfl,rfl,rfl,rfl,rfl⟩
   rcases i with _|i
   ·exact ⟨_,_,_,rfl,rfl,rfl,rfl,rfl,rfl⟩
   rcases i with _|i
   ·exact ⟨_,_,_,rfl,rfl,rfl,rfl,rfl,rfl⟩
   rcases i with _|i
   ·exact ⟨_,_,_,rfl,rfl,rfl,rfl,rfl,rfl⟩
   rcases i with _|i
   ·exact ⟨_,_,_,rfl,rfl,rfl,rfl,rfl,rfl⟩
   exact absurd hi (by simp)
  ·cases h
  ·iterate 12 refine Exists.intro _ (Exists.intro _ (And.intro rfl (And.intro rfl ?_)))
   rfl
 ·exact aiy
 ·exact abm
 ·exact abm
 ·exact abm
 ·exact aix
 ·refine ⟨⟨_,rfl,rfl,fun e h=>?_⟩,fun h=>?_,fun h=>?_,⟨_,_,rfl,rfl,rfl,rfl,rfl,?_⟩⟩
  ·cases h
  ·refine ⟨_,rfl,rfl,uD fun i hi=>?_⟩;rcases i with _|i
   ·exact ⟨_,_,_,rfl,rfl,rfl,rfl,rfl,rfl⟩
   rcases i with _|i
   ·exact ⟨_,_,_,rfl,rfl,rfl,rfl,rfl,rfl⟩
   rcases i with _|i
   ·exact ⟨_,_,_,rfl,rfl,rfl,rfl,rfl,rfl⟩
   rcases i with _|i
   ·exact ⟨_,_,_,rfl,rfl,rfl,rfl,rfl,rfl⟩
   exact absurd hi (by simp)
  ·cases h
  ·iterate 4 refine Exists.intro _ (Exists.intro _ (And.intro rfl (And.intro rfl ?_)))
   rfl
 ·refine ⟨⟨_,rfl,rfl,fun e h=>?_⟩,fun h=>?_,fun h=>?_,⟨_,_,rfl,rfl,rfl,rfl,rfl,?_⟩⟩
  ·cases h
  ·refine ⟨_,rfl,rfl,uD fun i hi=>?_⟩;rcases i with _|i
   ·exact ⟨_,_,_,rfl,rfl,rfl,rfl,rfl,rfl⟩
   rcases i with _|i
   ·exact ⟨_,_,_,rfl,rfl,rfl,rfl,rfl,rfl⟩
   rcases i with _|i
   ·exact ⟨_,_,_,rfl,rfl,rfl,rfl,rfl,rfl⟩
   rcases i with _|i
   ·exact ⟨_,_,_,rfl,rfl,rfl,rfl,rfl,rfl⟩
   rcases i with _|i
   ·exact ⟨_,_,_,rfl,rfl,rfl,rfl,rfl,rfl⟩
   rcases i with _|i
   ·exact ⟨_,_,_,rfl,rfl,rfl,rfl,rfl,rfl⟩
   rcases i with _|i
   ·exact ⟨_,_,_,rfl,rfl,rfl,rfl,rfl,rfl⟩
   exact absurd hi (by simp)
  ·cases h
  ·iterate 7 refine Exists.intro _ (Exists.intro _ (And.intro rfl (And.intro rfl ?_)))
   rfl
 ·exact aiw
 ·exact aix
 ·exact aiw
 ·exact aiy
variable {lim lim' : Nat -> Nat} {bs bs' : List Nat} {w w' : World} {P : Program} {T : kZ} {a : Act} {o : Oper} {m : Nat -> Prop} {bx bx' : List (List AV)} {S S' : uP} {K : Act -> World -> Prop} {Q : Exit -> Act -> World -> Prop} {cal : BR} {σ σ' σ1 σ2 : aF}
theorem kW {args:List AV} {vs:List Value} {nt:Nat} (hl:vs.length=args.length) (H:aB lim bs w bx (aS args vs) m):aB lim bs w bx (Sl (params [] 0 args) {tmps:=vs.toArray++Array.replicate (nt-vs.toArray.size) undef,defers:=[]}) m:=by
 have hS:Sl (params [] 0 args) {tmps:=vs.toArray++Array.replicate (nt-vs.toArray.size) undef,defers:=[]}=aS args vs:=by
  funext k;unfold Sl aS;rw [BF];congr 1
  ·by_cases hk:k<args.length
   ·rw [if_pos ⟨oM,oM⟩];simp
   ·rw [if_neg oM];simp [get,List.getD_eq_getElem?_getD,List.getElem?_eq_none (show args.length<=k by omega)]
  ·simp only [Array.getD_eq_getD_getElem?,List.getD_eq_getElem?_getD];by_cases hk:k<vs.length
   ·rw [Array.getElem?_append_left (by simpa using hk)];simp
   ·rw [Array.getElem?_append_right (by simpa using hk),List.getElem?_eq_none oM,Array.getElem?_replicate];split<;>rfl
 rw [hS];exact H
theorem kU {vs:List Value} {nt:Nat}:nt<=(vs.toArray++Array.replicate (nt-vs.toArray.size) undef).size:=by simp;omega
theorem zg (HT:mM P T) (HC:fB P cal) {i:Nat} {ops:Array Oper} {md:Md} (hd:∀o ∈ ops.toList,∀k,o.dst=some k->k<a.tmps.size) (H:aB lim bs w σ.bx (Sl σ.tm a) m) (hm:∀b,w.heap.size<=b->m b) (h:dJ cal T ops.toList md ops.toList σ=some σ') (hK:kJ md.base m lim bs w a σ' (Q .normal)):(Code.region i ops false).wp P Q a w:=
 wp_region_list (xP HT HC hd ops.toList (fun _ h=>h) rfl H hm h hK)
theorem dD:fB P (fun _ _ _=>none):=fun f args bx r bx' h=>by cases h
def QX:Md:=⟨[],[],0⟩
theorem nC {ops:List Oper} {n k:Nat} (h:(ops.all fun o=>match o.dst with|some d=>decide (d<n)|none=>true)=true) (hn:n<=k):∀o ∈ ops,∀d,o.dst=some d->d<k:=by intro o ho d hd;rw [List.all_eq_true] at h;have:=h o ho;rw [hd] at this;simp only [decide_eq_true_eq] at this;exact Nat.lt_of_lt_of_le this hn
theorem zf (HT:mM P T) (HC:fB P cal) {ops:Array Oper} {rest:List Oper} {md:Md} (hd:∀d,o.dst=some d->d<a.tmps.size) (H:aB lim bs w σ.bx (Sl σ.tm a) m) (hm:∀b,w.heap.size<=b->m b) (h:yx cal T md ops.toList o σ=some σ') (hK:∀lim' bs' w' a',rW md.base m lim bs w a σ' lim' bs' w' a'->wpList P ops Q rest a' w'):wpList P ops Q (o::rest) a w:=
 wpList_step fun K hK'=>ED HT HC H hm hd h (fun lim' bs' w' a' g=>hK' a' w' (hK lim' bs' w' a' g))
theorem UX {u:Value} {e z:Nat} (H:aB lim bs w bx (rS .nil u) m):aB lim bs w bx (rS (.row e z 0 []) u) m:=by
 have h0:=H.slot 0;have h0':AV.R lim bs w .nil u:=h0;rw [AV.R] at h0';have ho:∀p g,Own w bs bx (rS (.row e z 0 []) u) p g->Own w bs bx (rS .nil u) p g:=by
  intro p g hp;cases p with
  |b i j=>exact hp
  |t k=>
   obtain ⟨h1,h2⟩:=hp;by_cases hk:k=0
   ·subst hk;have h2':u.ownBlock=some g:=h2;rw [h0'] at h2';cases h2'
   ·have:(rS (.row e z 0 []) u k).1=.bad:=by unfold rS;rw [if_neg hk]
    rw [this] at h1;cases h1
 refine ⟨H.len,H.BX,H.free,H.mb,H.box,fun k=>?_,fun k=>?_,H.top,fun p g hp=>H.own p g (ho p g hp),fun p q g hp hq=>H.qO p q g (ho p g hp) (ho q g hq)⟩
 ·unfold rS;split
  ·show AV.R lim bs w (.row e z 0 []) u;rw [AV.R];exact ⟨by simp,rfl,.inl ⟨h0',rfl⟩⟩
  ·exact oV _
 ·unfold rS;split<;>rfl
theorem Vz {n:Nat} {l:List AV} (hl:l.length=n*2) (h1:dZ l=true) (h2:AV.aj l=true) (hn:n<=10000000000):aV Tryz.prog 39 [.sl n l] [] (.row 56 2 n l) []:=by
 refine ⟨⟨_,rfl,rfl,rfl⟩,Nat.le_refl _,fun lim bs w vs m hvl hm H=>?_⟩;refine calls_of_wp rfl rfl ?_;have H0:=kW (nt:=8) hvl H;have hsz:8<=(vs.toArray++Array.replicate (8-vs.toArray.size) undef).size:=kU;refine wp_seq (zg (md:=QX) tok dD (nC (by rfl) hsz) (σ:=⟨[(0,.sl n l)],[]⟩) (σ':=⟨[(2,.nil),(0,.sl n l)],[]⟩) H0 hm rfl fun eQ mY w1 a1 g1=>?_);have hs1:8<=a1.tmps.size:=by rw [g1.nt];exact hsz
 have hbs:bs=[]:=List.eq_nil_of_length_eq_zero (by rw [H.len];rfl);have hv:=g1.hold.slot 0;rw [show (Sl _ a1 0).1=AV.sl n l from rfl,AV.R] at hv;obtain ⟨ad,c,hv,hnc,hl0⟩:=hv;have hv':a1.tmps.getD 0 undef=.slice ad n c:=hv;refine wp_seq (wp_seq (wp_region_list (wpList_step fun K hK=>?_)));show Oper.wp _ _ _ _ _ _;refine jq (u:=.slice ad n c) (w':=w1) ?_ (hK _ _ ?_)
 ·unfold execOp;simp [Act.eval,hv',-Array.getD_eq_getD_getElem?]
 refine wpList_step fun K hK=>?_;show Oper.wp _ _ _ _ _ _;refine jq (u:=.bool ad.isNone) (w':=w1) ?_ (hK _ _ ?_)
 ·unfold execOp;have h3:((a1.put (some 3) (Value.slice ad n c)).tmps.getD 3 undef)=.slice ad n c:=by have:3<a1.tmps.size:=oM;simp [Act.put,this]
  simp [Act.eval,h3,-Array.getD_eq_getD_getElem?];have he:(Op.equal 25 (.slice ad n c) (.slice none 0 0)).run Tryz.prog w1=.ok ad.isNone w1:=run_equalIn_slice_nil w1 _ 25 56 ad n c rfl;simp [eqGuard,binOp,he]
 refine wpList_nil ?_;obtain ⟨a2,ha2⟩:∃a2,a2=(a1.put (some 3) (Value.slice ad n c)).put (some 4) (.bool ad.isNone):=⟨_,rfl⟩;have H3:aB eQ mY w1 [] (Sl [(4,.bool ad.isNone),(3,.bad),(2,.nil),(0,.sl n l)] a2) m:=by rw [ha2];show aB eQ mY w1 [] (Sl (put (put [(2,.nil),(0,.sl n l)] 3 .bad) 4 (.bool ad.isNone)) _) m;rw [vX (by rw [bY];omega),vX oM];exact (g1.hold.put (oV _) rfl (fun g hh=>by cases hh)).put (by rw [AV.R]) rfl (fun g hh=>by cases hh)
 have hs2:8<=a2.tmps.size:=by rw [ha2,bY,bY];exact hs1
 have hd2:a2.defers=[]:=by rw [ha2];exact g1.df
 rw [←ha2];refine wp_cond (t:=ad.isNone) (qR (σ:=⟨[(4,.bool ad.isNone),(3,.bad),(2,.nil),(0,.sl n l)],[]⟩) (.tmp 4) H3 rfl) ?_;have hm1:∀b,w1.heap.size<=b->m b:=fun b hb=>hm b (Nat.le_trans g1.fr.bel.size hb);cases ad with
 |none=>
  have hl1:l=[]:=by
   rcases hl0 with h|⟨b,o,h,-⟩
   ·exact h
   ·cases h
  subst hl1;have hn0:n=0:=by rw [List.length_nil] at hl;omega
  subst hn0;refine wp_seq (zg (md:=QX) tok dD (nC (by rfl) hs2) (σ:=⟨[(4,.bool true),(3,.bad),(2,.nil),(0,.sl 0 [])],[]⟩) (σ':=⟨[(4,.bool true),(3,.bad),(2,.nil),(0,.sl 0 [])],[]⟩) H3 hm1 rfl fun jB wR w2 a3 g2=>wp_ret ?_);obtain ⟨u,u1,u2⟩:=jw (T:=jJ) (n:=0) (fn:=Tryz.f39) tok g2.hold (vs:=[.nil]) rfl;exact ⟨g2.df.trans hd2,u,u1,u,jB,wR,rfl,UX u2,g1.fr.trans g2.fr,fun i hi=>by cases hi⟩
 |some ad=>
  refine wp_skip ?_;refine wp_seq (wp_region_list (zf (md:=QX) (σ:=⟨[(4,.bool false),(3,.bad),(2,.nil),(0,.sl n l)],[]⟩) (σ':=⟨[(5,.row 56 2 0 []),(4,.bool false),(3,.bad),(2,.nil),(0,.sl n l)],[]⟩) tok dD (nC (ops:=[_]) (by rfl) hs2 _ List.mem_cons_self) H3 hm1 rfl fun jB wR w2 a3 g2=>?_));have hs3:8<=a3.tmps.size:=by rw [g2.nt];exact hs2
  have hm2:∀b,w2.heap.size<=b->m b:=fun b hb=>hm1 b (Nat.le_trans g2.fr.bel.size hb);refine zf (md:=QX) (σ':=⟨[(6,.sl n l),(5,.row 56 2 0 []),(4,.bool false),(3,.bad),(2,.nil),(0,.sl n l)],[]⟩) tok dD (nC (ops:=[_]) (by rfl) hs3 _ List.mem_cons_self) g2.hold hm2 rfl fun apd bs3 w3 a4 g3=>?_;have hs4:8<=a4.tmps.size:=by rw [g3.nt];exact hs3
  have hm3:∀b,w3.heap.size<=b->m b:=fun b hb=>hm2 b (Nat.le_trans g3.fr.bel.size hb);have hok:(true && decide (0+n<=10000000000) && decide (l.length=n*2) && decide (0<2) && decide (24<=1000) && dZ l && AV.aj l)=true:=by rw [h1,h2];simp only [Bool.and_true,Bool.true_and,Bool.and_eq_true,decide_eq_true_eq];exact ⟨⟨⟨oM,hl⟩,oM⟩,oM⟩
  refine zf (md:=QX) (σ':=⟨[(7,.row 56 2 (0+n) ([]++l)),(6,.sl n l),(5,.sl 0 []),(4,.bool false),(3,.bad),(2,.nil),(0,.sl n l)],[]⟩) tok dD (nC (ops:=[_]) (by rfl) hs4 _ List.mem_cons_self) g3.hold hm3 (Eq.trans (show _=if _=true then some _ else none from rfl) (if_pos hok)) fun apc bs4 w4 a5 g4=>?_;have hs5:8<=a5.tmps.size:=by rw [g4.nt];exact hs4
  have hm4:∀b,w4.heap.size<=b->m b:=fun b hb=>hm3 b (Nat.le_trans g4.fr.bel.size hb);rw [Nat.zero_add,List.nil_append] at g4;refine zf (md:=QX) (σ:=⟨[(7,.row 56 2 n l),(6,.sl n l),(5,.sl 0 []),(4,.bool false),(3,.bad),(2,.nil),(0,.sl n l)],[]⟩) (σ':=⟨[(7,.sl n l),(6,.sl n l),(5,.sl 0 []),(4,.bool false),(3,.bad),(2,.row 56 2 n l),(0,.sl n l)],[]⟩) tok dD (nC (ops:=[_]) (by rfl) hs5 _ List.mem_cons_self) g4.hold hm4 rfl fun afY bs5 w5 a6 g5=>?_;refine wpList_nil (wp_ret ?_);obtain ⟨u,u1,u2⟩:=jw (T:=jJ) (n:=0) (fn:=Tryz.f39) tok g5.hold (vs:=[.row 56 2 n l]) rfl;exact ⟨g5.df.trans (g4.df.trans (g3.df.trans (g2.df.trans hd2))),u,u1,u,afY,bs5,rfl,u2,g1.fr.trans (g2.fr.trans (g3.fr.trans (g4.fr.trans g5.fr))),fun i hi=>by cases hi⟩
theorem Vy {n:Nat} {l:List AV} (hl:l.length=n*1) (h1:dZ l=true) (h2:AV.aj l=true) (hn:n<=10000000000):aV Tryz.prog 40 [.sl n l] [] (.row 9 1 n l) []:=by
 refine ⟨⟨_,rfl,rfl,rfl⟩,Nat.le_refl _,fun lim bs w vs m hvl hm H=>?_⟩;refine calls_of_wp rfl rfl ?_;have H0:=kW (nt:=8) hvl H;have hsz:8<=(vs.toArray++Array.replicate (8-vs.toArray.size) undef).size:=kU;refine wp_seq (zg (md:=QX) tok dD (nC (by rfl) hsz) (σ:=⟨[(0,.sl n l)],[]⟩) (σ':=⟨[(2,.nil),(0,.sl n l)],[]⟩) H0 hm rfl fun eQ mY w1 a1 g1=>?_);have hs1:8<=a1.tmps.size:=by rw [g1.nt];exact hsz
 have hbs:bs=[]:=List.eq_nil_of_length_eq_zero (by rw [H.len];rfl);have hv:=g1.hold.slot 0;rw [show (Sl _ a1 0).1=AV.sl n l from rfl,AV.R] at hv;obtain ⟨ad,c,hv,hnc,hl0⟩:=hv;have hv':a1.tmps.getD 0 undef=.slice ad n c:=hv;refine wp_seq (wp_seq (wp_region_list (wpList_step fun K hK=>?_)));show Oper.wp _ _ _ _ _ _;refine jq (u:=.slice ad n c) (w':=w1) ?_ (hK _ _ ?_)
 ·unfold execOp;simp [Act.eval,hv',-Array.getD_eq_getD_getElem?]
 refine wpList_step fun K hK=>?_;show Oper.wp _ _ _ _ _ _;refine jq (u:=.bool ad.isNone) (w':=w1) ?_ (hK _ _ ?_)
 ·unfold execOp;have h3:((a1.put (some 3) (Value.slice ad n c)).tmps.getD 3 undef)=.slice ad n c:=by have:3<a1.tmps.size:=oM;simp [Act.put,this]
  simp [Act.eval,h3,-Array.getD_eq_getD_getElem?];have he:(Op.equal 32 (.slice ad n c) (.slice none 0 0)).run Tryz.prog w1=.ok ad.isNone w1:=run_equalIn_slice_nil w1 _ 32 9 ad n c rfl;simp [eqGuard,binOp,he]
 refine wpList_nil ?_;obtain ⟨a2,ha2⟩:∃a2,a2=(a1.put (some 3) (Value.slice ad n c)).put (some 4) (.bool ad.isNone):=⟨_,rfl⟩;have H3:aB eQ mY w1 [] (Sl [(4,.bool ad.isNone),(3,.bad),(2,.nil),(0,.sl n l)] a2) m:=by rw [ha2];show aB eQ mY w1 [] (Sl (put (put [(2,.nil),(0,.sl n l)] 3 .bad) 4 (.bool ad.isNone)) _) m;rw [vX (by rw [bY];omega),vX oM];exact (g1.hold.put (oV _) rfl (fun g hh=>by cases hh)).put (by rw [AV.R]) rfl (fun g hh=>by cases hh)
 have hs2:8<=a2.tmps.size:=by rw [ha2,bY,bY];exact hs1
 have hd2:a2.defers=[]:=by rw [ha2];exact g1.df
 rw [←ha2];refine wp_cond (t:=ad.isNone) (qR (σ:=⟨[(4,.bool ad.isNone),(3,.bad),(2,.nil),(0,.sl n l)],[]⟩) (.tmp 4) H3 rfl) ?_;have hm1:∀b,w1.heap.size<=b->m b:=fun b hb=>hm b (Nat.le_trans g1.fr.bel.size hb);cases ad with
 |none=>
  have hl1:l=[]:=by
   rcases hl0 with h|⟨b,o,h,-⟩
   ·exact h
   ·cases h
  subst hl1;have hn0:n=0:=by rw [List.length_nil] at hl;omega
  subst hn0;refine wp_seq (zg (md:=QX) tok dD (nC (by rfl) hs2) (σ:=⟨[(4,.bool true),(3,.bad),(2,.nil),(0,.sl 0 [])],[]⟩) (σ':=⟨[(4,.bool true),(3,.bad),(2,.nil),(0,.sl 0 [])],[]⟩) H3 hm1 rfl fun jB wR w2 a3 g2=>wp_ret ?_);obtain ⟨u,u1,u2⟩:=jw (T:=jJ) (n:=0) (fn:=Tryz.f40) tok g2.hold (vs:=[.nil]) rfl;exact ⟨g2.df.trans hd2,u,u1,u,jB,wR,rfl,UX u2,g1.fr.trans g2.fr,fun i hi=>by cases hi⟩
 |some ad=>
  refine wp_skip ?_;refine wp_seq (wp_region_list (zf (md:=QX) (σ:=⟨[(4,.bool false),(3,.bad),(2,.nil),(0,.sl n l)],[]⟩) (σ':=⟨[(5,.row 9 1 0 []),(4,.bool false),(3,.bad),(2,.nil),(0,.sl n l)],[]⟩) tok dD (nC (ops:=[_]) (by rfl) hs2 _ List.mem_cons_self) H3 hm1 rfl fun jB wR w2 a3 g2=>?_));have hs3:8<=a3.tmps.size:=by rw [g2.nt];exact hs2
  have hm2:∀b,w2.heap.size<=b->m b:=fun b hb=>hm1 b (Nat.le_trans g2.fr.bel.size hb);refine zf (md:=QX) (σ':=⟨[(6,.sl n l),(5,.row 9 1 0 []),(4,.bool false),(3,.bad),(2,.nil),(0,.sl n l)],[]⟩) tok dD (nC (ops:=[_]) (by rfl) hs3 _ List.mem_cons_self) g2.hold hm2 rfl fun apd bs3 w3 a4 g3=>?_;have hs4:8<=a4.tmps.size:=by rw [g3.nt];exact hs3
  have hm3:∀b,w3.heap.size<=b->m b:=fun b hb=>hm2 b (Nat.le_trans g3.fr.bel.size hb);have hok:(true && decide (0+n<=10000000000) && decide (l.length=n*1) && decide (0<1) && decide (16<=1000) && dZ l && AV.aj l)=true:=by rw [h1,h2];simp only [Bool.and_true,Bool.true_and,Bool.and_eq_true,decide_eq_true_eq];exact ⟨⟨⟨oM,hl⟩,oM⟩,oM⟩
  refine zf (md:=QX) (σ':=⟨[(7,.row 9 1 (0+n) ([]++l)),(6,.sl n l),(5,.sl 0 []),(4,.bool false),(3,.bad),(2,.nil),(0,.sl n l)],[]⟩) tok dD (nC (ops:=[_]) (by rfl) hs4 _ List.mem_cons_self) g3.hold hm3 (Eq.trans (show _=if _=true then some _ else none from rfl) (if_pos hok)) fun apc bs4 w4 a5 g4=>?_;have hs5:8<=a5.tmps.size:=by rw [g4.nt];exact hs4
  have hm4:∀b,w4.heap.size<=b->m b:=fun b hb=>hm3 b (Nat.le_trans g4.fr.bel.size hb);rw [Nat.zero_add,List.nil_append] at g4;refine zf (md:=QX) (σ:=⟨[(7,.row 9 1 n l),(6,.sl n l),(5,.sl 0 []),(4,.bool false),(3,.bad),(2,.nil),(0,.sl n l)],[]⟩) (σ':=⟨[(7,.sl n l),(6,.sl n l),(5,.sl 0 []),(4,.bool false),(3,.bad),(2,.row 9 1 n l),(0,.sl n l)],[]⟩) tok dD (nC (ops:=[_]) (by rfl) hs5 _ List.mem_cons_self) g4.hold hm4 rfl fun afY bs5 w5 a6 g5=>?_;refine wpList_nil (wp_ret ?_);obtain ⟨u,u1,u2⟩:=jw (T:=jJ) (n:=0) (fn:=Tryz.f40) tok g5.hold (vs:=[.row 9 1 n l]) rfl;exact ⟨g5.df.trans (g4.df.trans (g3.df.trans (g2.df.trans hd2))),u,u1,u,afY,bs5,rfl,u2,g1.fr.trans (g2.fr.trans (g3.fr.trans (g4.fr.trans g5.fr))),fun i hi=>by cases hi⟩
theorem aaf:aV Tryz.prog 39 [.nil] [] .nil []:=by
 refine ⟨⟨_,rfl,rfl,rfl⟩,Nat.le_refl _,fun lim bs w vs m hvl hm H=>?_⟩;refine calls_of_wp rfl rfl ?_;have H0:=kW (nt:=8) hvl H;have hsz:8<=(vs.toArray++Array.replicate (8-vs.toArray.size) undef).size:=kU;refine wp_seq (zg (md:=QX) tok dD (nC (by rfl) hsz) (σ:=⟨[(0,.nil)],[]⟩) (σ':=⟨[(2,.nil),(0,.nil)],[]⟩) H0 hm rfl fun eQ mY w1 a1 g1=>?_);have hs1:8<=a1.tmps.size:=by rw [g1.nt];exact hsz
 have hv:=g1.hold.slot 0;rw [show (Sl _ a1 0).1=AV.nil from rfl,AV.R] at hv;have hv':a1.tmps.getD 0 undef=.slice none 0 0:=hv;refine wp_seq (wp_seq (wp_region_list (wpList_step fun K hK=>?_)));show Oper.wp _ _ _ _ _ _;refine jq (u:=.slice none 0 0) (w':=w1) ?_ (hK _ _ ?_)
 ·unfold execOp;simp [Act.eval,hv',-Array.getD_eq_getD_getElem?]
 refine wpList_step fun K hK=>?_;show Oper.wp _ _ _ _ _ _;refine jq (u:=.bool true) (w':=w1) ?_ (hK _ _ ?_)
 ·unfold execOp;have h3:((a1.put (some 3) (Value.slice none 0 0)).tmps.getD 3 undef)=.slice none 0 0:=by have:3<a1.tmps.size:=oM;simp [Act.put,this]
  simp [Act.eval,h3,-Array.getD_eq_getD_getElem?];have he:(Op.equal 25 (.slice none 0 0) (.slice none 0 0)).run Tryz.prog w1=.ok true w1:=run_equalIn_slice_nil w1 _ 25 56 none 0 0 rfl;simp [eqGuard,binOp,he]
 refine wpList_nil ?_;obtain ⟨a2,ha2⟩:∃a2,a2=(a1.put (some 3) (Value.slice none 0 0)).put (some 4) (.bool true):=⟨_,rfl⟩;have H3:aB eQ mY w1 [] (Sl [(4,.bool true),(3,.bad),(2,.nil),(0,.nil)] a2) m:=by rw [ha2];show aB eQ mY w1 [] (Sl (put (put [(2,.nil),(0,.nil)] 3 .bad) 4 (.bool true)) _) m;rw [vX (by rw [bY];omega),vX oM];exact (g1.hold.put (oV _) rfl (fun g hh=>by cases hh)).put (by rw [AV.R]) rfl (fun g hh=>by cases hh)
 have hs2:8<=a2.tmps.size:=by rw [ha2,bY,bY];exact hs1
 have hd2:a2.defers=[]:=by rw [ha2];exact g1.df
 rw [←ha2];refine wp_cond (t:=true) (qR (σ:=⟨[(4,.bool true),(3,.bad),(2,.nil),(0,.nil)],[]⟩) (.tmp 4) H3 rfl) ?_;have hm1:∀b,w1.heap.size<=b->m b:=fun b hb=>hm b (Nat.le_trans g1.fr.bel.size hb);refine wp_seq (zg (md:=QX) tok dD (nC (by rfl) hs2) (σ:=⟨[(4,.bool true),(3,.bad),(2,.nil),(0,.nil)],[]⟩) (σ':=⟨[(4,.bool true),(3,.bad),(2,.nil),(0,.nil)],[]⟩) H3 hm1 rfl fun jB wR w2 a3 g2=>wp_ret ?_);obtain ⟨u,u1,u2⟩:=jw (T:=jJ) (n:=0) (fn:=Tryz.f39) tok g2.hold (vs:=[.nil]) rfl;exact ⟨g2.df.trans hd2,u,u1,u,jB,wR,rfl,u2,g1.fr.trans g2.fr,fun i hi=>by cases hi⟩
theorem aae:aV Tryz.prog 40 [.nil] [] .nil []:=by
 refine ⟨⟨_,rfl,rfl,rfl⟩,Nat.le_refl _,fun lim bs w vs m hvl hm H=>?_⟩;refine calls_of_wp rfl rfl ?_;have H0:=kW (nt:=8) hvl H;have hsz:8<=(vs.toArray++Array.replicate (8-vs.toArray.size) undef).size:=kU;refine wp_seq (zg (md:=QX) tok dD (nC (by rfl) hsz) (σ:=⟨[(0,.nil)],[]⟩) (σ':=⟨[(2,.nil),(0,.nil)],[]⟩) H0 hm rfl fun eQ mY w1 a1 g1=>?_);have hs1:8<=a1.tmps.size:=by rw [g1.nt];exact hsz
 have hv:=g1.hold.slot 0;rw [show (Sl _ a1 0).1=AV.nil from rfl,AV.R] at hv;have hv':a1.tmps.getD 0 undef=.slice none 0 0:=hv;refine wp_seq (wp_seq (wp_region_list (wpList_step fun K hK=>?_)));show Oper.wp _ _ _ _ _ _;refine jq (u:=.slice none 0 0) (w':=w1) ?_ (hK _ _ ?_)
 ·unfold execOp;simp [Act.eval,hv',-Array.getD_eq_getD_getElem?]
 refine wpList_step fun K hK=>?_;show Oper.wp _ _ _ _ _ _;refine jq (u:=.bool true) (w':=w1) ?_ (hK _ _ ?_)
 ·unfold execOp;have h3:((a1.put (some 3) (Value.slice none 0 0)).tmps.getD 3 undef)=.slice none 0 0:=by have:3<a1.tmps.size:=oM;simp [Act.put,this]
  simp [Act.eval,h3,-Array.getD_eq_getD_getElem?];have he:(Op.equal 32 (.slice none 0 0) (.slice none 0 0)).run Tryz.prog w1=.ok true w1:=run_equalIn_slice_nil w1 _ 32 9 none 0 0 rfl;simp [eqGuard,binOp,he]
 refine wpList_nil ?_;obtain ⟨a2,ha2⟩:∃a2,a2=(a1.put (some 3) (Value.slice none 0 0)).put (some 4) (.bool true):=⟨_,rfl⟩;have H3:aB eQ mY w1 [] (Sl [(4,.bool true),(3,.bad),(2,.nil),(0,.nil)] a2) m:=by rw [ha2];show aB eQ mY w1 [] (Sl (put (put [(2,.nil),(0,.nil)] 3 .bad) 4 (.bool true)) _) m;rw [vX (by rw [bY];omega),vX oM];exact (g1.hold.put (oV _) rfl (fun g hh=>by cases hh)).put (by rw [AV.R]) rfl (fun g hh=>by cases hh)
 have hs2:8<=a2.tmps.size:=by rw [ha2,bY,bY];exact hs1
 have hd2:a2.defers=[]:=by rw [ha2];exact g1.df
 rw [←ha2];refine wp_cond (t:=true) (qR (σ:=⟨[(4,.bool true),(3,.bad),(2,.nil),(0,.nil)],[]⟩) (.tmp 4) H3 rfl) ?_;have hm1:∀b,w1.heap.size<=b->m b:=fun b hb=>hm b (Nat.le_trans g1.fr.bel.size hb);refine wp_seq (zg (md:=QX) tok dD (nC (by rfl) hs2) (σ:=⟨[(4,.bool true),(3,.bad),(2,.nil),(0,.nil)],[]⟩) (σ':=⟨[(4,.bool true),(3,.bad),(2,.nil),(0,.nil)],[]⟩) H3 hm1 rfl fun jB wR w2 a3 g2=>wp_ret ?_);obtain ⟨u,u1,u2⟩:=jw (T:=jJ) (n:=0) (fn:=Tryz.f40) tok g2.hold (vs:=[.nil]) rfl;exact ⟨g2.df.trans hd2,u,u1,u,jB,wR,rfl,u2,g1.fr.trans g2.fr,fun i hi=>by cases hi⟩
end Ab
set_option maxRecDepth 100000
theorem ag0 {ops:Array Oper} {rest:List Oper} {o:Oper} {a:Act} {Q:Exit->Act->World->Prop} {w:World} (hgd:o.guard=none) (s x:Operand)
  (ho:o.op=.call {callee:=.builtin .append,args:=#[s,x],argTypes:=#[25,3]}) (n:Nat) (hs:a.eval s=.slice none 0 0) (hx:a.eval x=.int .i64 n) (h0:0<n) (hn:n<=10000000000)
  (h:∀(c:Nat) (cs:Array Value),cs.size=c*2->n<=c->c<=maxLen->wpList Tryz.prog ops Q rest (a.put o.dst (.slice (some ⟨w.heap.size,0,none⟩) n c)) (w.drew.alloc (.cells cs 56))):
  wpList Tryz.prog ops Q (o::rest) a w:=by
 obtain ⟨i0,hi,hz0,hz1,hz2⟩:=info_parts Tryz.Zb;refine wpList_step fun K hK=>?_;rw [if_pos (by simp [Region.wanted,hgd])];have hr:=Lib.run_append_nil_zeros (P:=Tryz.prog) w 25 3 o.type 56 i0 _ .i64 .i64 Tryz.underlying25 Tryz.underlying3 hi hz0 n h0 (by rw [hz1];omega) oM (by rw [hz2];omega);have hge:=grownCap_ge w n 0 56;have hml:n<=maxLen:=by have:(10000000000:Nat)<=maxLen:=dE;omega
 unfold Oper.wp execOp;simp only [ho,resolve,invoke,builtin,Sem.run_bind,Sem.run_pure,Result.andThen_ok,List.map_toArray,List.map_cons,List.map_nil,hs,hx,hr];refine hK _ _ (h _ _ ?_ hge (grownCap_le_maxLen w n 0 56 hml));simp only [Array.size_append,size_zeroCells];show n*2+(_-n)*2=_;omega
theorem ZA (n:Nat) (w:World) (hn:n<=10000000000):
  Calls Tryz.prog 73 #[.slice none 0 0,.int .i64 n] w fun e w'=>(n=0∧e=.returned (.slice none 0 0)∧w=w')∨(0<n∧∃(c:Nat) (cs:Array Value),e=.returned (.slice (some ⟨w.heap.size,0,none⟩) 0 c)∧w'=w.drew.alloc (.cells cs 56)∧cs.size=c*2∧c<=maxLen):=by
 have hneg:¬((n:Int)<0):=oM;by_cases h0:n=0
 ·subst h0;refine Calls.mono (R:=fun e w'=>e=.returned (.slice none 0 0)∧w=w') ?_ (fun e w' h=> .inl ⟨rfl,h.1,h.2⟩)
  go_enter Tryz.func73,Tryz.ntmps73
  go_wp2_with fail
  go_ret
  exact ⟨rfl,rfl⟩
 ·have hp:(0:Int)<n:=oM;refine Calls.mono (R:=fun e w'=>∃(c:Nat) (cs:Array Value),e=.returned (.slice (some ⟨w.heap.size,0,none⟩) 0 c)∧w'=w.drew.alloc (.cells cs 56)∧cs.size=c*2∧c<=maxLen) ?_ (fun e w' h=> .inr ⟨oM,h⟩)
  go_enter Tryz.func73,Tryz.ntmps73
  go_wp2_with (at_builtin;refine ag0 rfl (.tmp 20) (.tmp 21) rfl n rfl rfl oM hn ?_;intro c cs h1 h2 h3)
  go_ret
  exact ⟨c,rfl,cs,rfl,h1,h3⟩
namespace Ab
theorem aB.res {lim:Nat->Nat} {w:World} {r:AV} {u:Value} {m:Nat->Prop} (ht:∀b,w.heap.size<=b->lim b=0) (hR:AV.R lim [] w r u) (hr:r.top=true) (hg:∀g,r.isRow=true->u.ownBlock=some g->m g):aB lim [] w [] (rS r u) m:=by
 have hk:∀k g,Own w [] [] (rS r u) (.t k) g->k=0∧r.isRow=true∧u.ownBlock=some g:=by
  intro k g hp;obtain ⟨p1,p2⟩:=hp;unfold rS at p1 p2;split at p1
  ·rename_i hk;rw [if_pos hk] at p2;exact ⟨hk,p1,p2⟩
  ·cases p1
 have hb:∀i j g,¬Own w [] [] (rS r u) (.b i j) g:=by rintro i j g ⟨b,x,y,v,p1,-⟩;simp at p1
 refine ⟨rfl,List.nodup_nil,(fun b hb=>by cases hb),(fun b hb=>by cases hb),(fun i b x hi=>by simp at hi),fun k=>?_,fun k=>?_,ht,fun p g hp=>?_,fun p q g hp hq=>?_⟩
 ·unfold rS;split
  ·exact hR
  ·exact oV _
 ·unfold rS;split
  ·exact hr
  ·rfl
 ·cases p with
  |t k=>
   obtain ⟨-,h1,h2⟩:=hk k g hp;exact ⟨hg g h1 h2,fun hb=>by cases hb⟩
  |b i j=>exact absurd hp (hb i j g)
 ·cases p with
  |t k=>
   cases q with
   |t k2=>rw [(hk k g hp).1,(hk k2 g hq).1]
   |b i j=>exact absurd hq (hb i j g)
  |b i j=>exact absurd hp (hb i j g)
theorem QS {lim:Nat->Nat} {bs:List Nat} {w:World} {m:Nat->Prop} {bx:List (List AV)} {args:List AV} {vs:List Value} (hl:vs.length=args.length) (H:aB lim bs w bx (aS args vs) m):AV.Rs lim bs w args vs:=by refine wW hl fun i x v hx hv=>?_;have h:=H.slot i;have h':AV.R lim bs w (args.getD i .bad) (vs.getD i undef):=h;rw [List.getD_eq_getElem?_getD,List.getD_eq_getElem?_getD,hx,hv] at h';exact h'
set_option maxRecDepth 1000000 in
theorem ZB (n:Nat) (hn:n<=10000000000):aV Tryz.prog 73 [.nil,.int .i64 n] [] (if n=0 then .nil else .row 56 2 0 []) []:=by
 refine ⟨⟨_,rfl,rfl,rfl⟩,Nat.le_refl _,fun lim bs w vs m hvl hm H=>?_⟩;have hbs:bs=[]:=List.eq_nil_of_length_eq_zero (by rw [H.len];rfl);subst hbs;have hvs:vs=[.slice none 0 0,.int .i64 n]:=by have h:=QS hvl H;simp only [AV.Rs,AV.R] at h;obtain ⟨v,r,rfl,rfl,v2,r2,rfl,rfl,rfl⟩:=h;rfl
 subst hvs;refine (ZA n w hn).mono ?_;rintro e w' (⟨h0,rfl,rfl⟩|⟨h0,c,cs,rfl,rfl,h1,h2⟩)
 ·rw [if_pos h0];exact ⟨_,lim,[],rfl,aB.res H.top (by rw [AV.R]) rfl (fun g hh=>by cases hh),Fr.refl,fun i hi=>rfl⟩
 ·rw [if_neg oM];have hs:(w.drew.alloc (.cells cs 56)).heap.size=w.heap.size+1:=by simp
  have hfr:Fr m lim w lim (w.drew.alloc (.cells cs 56)):=by have hold:∀b,b<w.heap.size->(w.drew.alloc (.cells cs 56)).heap[b]?=w.heap[b]?:=fun b hb=>heap_alloc_old w.drew _ hb;exact ⟨((Below.refl 0 w).drew).alloc (Nat.zero_le _) _,fun b hb _=>⟨hold b hb,rfl⟩,fun _ _=>Nat.le_refl _,fun b j hb _=>World.cell?_of_block (hold b hb),fun b cur e p h=>⟨cur,(hold b (dO h)).trans h,rfl⟩⟩
  refine ⟨_,lim,[],rfl,aB.res (fun b hb=>H.top b oM) (Px (V:=cs) (Nat.zero_mul _).symm rfl (heap_alloc_new w.drew _) (Nat.zero_le _) h2 h1 (H.top _ (Nat.le_refl _)) ⟨[],by rw [AV.Rs],by rw [Nat.zero_mul,List.take_zero]⟩) rfl (fun g _ hg=>?_),hfr,fun i hi=>rfl⟩;have hg':w.heap.size=g:=by simpa [Value.ownBlock] using hg
  exact hm _ oM
end Ab
end
end Go.Proofs.YtlmjabnkjmfcmaaGreat
