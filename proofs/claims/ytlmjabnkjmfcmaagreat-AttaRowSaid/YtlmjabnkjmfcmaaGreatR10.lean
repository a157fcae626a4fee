/- Parts of a proof; no condition. -/
import Derived.Test.YtlmjabnkjmfcmaaGreatR9
namespace Go.Proofs.YtlmjabnkjmfcmaaGreat
open Go Go.RowKit Go.PlainAid
set_option linter.unusedVariables false
set_option linter.unusedSimpArgs false
set_option linter.unusedSectionVars false
set_option maxHeartbeats 20000000
set_option linter.defProp false
section
variable [nM]
namespace Bk
theorem S9 {s:ByteArray} {k m:Nat} (h:dB (bt s k)=false):iV s k m=k:=by
 unfold iV;cases hm:m-k with
 |zero=>rw [rZ];omega
 |succ n=>rw [rZ,if_neg (by rw [h];simp)];omega
end Bk
namespace V
open Ab
open Bk (Cm)
def cs (l:List Cm):AV:=.sl l.length (eU l)
theorem ay:∀(l:List Cm),mi (eU l)=true
 |[]=>rfl
 |c::l=>by rw [eU,mi,mi,ay l];rfl
theorem D9 (l:List Cm):wv (cs l)=true:=ay l
theorem EW:∀(l m:List Cm),eU (l++m)=eU l++eU m
 |[],m=>rfl
 |c::l,m=>by rw [List.cons_append,eU,eU,EW l m];rfl
theorem jM:∀(l:List Cm),(eU l).length=l.length*2
 |[]=>rfl
 |c::l=>by rw [eU,List.length_cons,List.length_cons,List.length_cons,jM l];omega
inductive Nd where
 |mk (k y p b:Int) (an tg tx:ByteArray) (kids:List Nd) (lead ag:List Cm) (h:Bool) (tr:ByteArray)
namespace Nd
def k:Nd->Int|mk k _ _ _ _ _ _ _ _ _ _ _=>k
def y:Nd->Int|mk _ y _ _ _ _ _ _ _ _ _ _=>y
def p:Nd->Int|mk _ _ p _ _ _ _ _ _ _ _ _=>p
def b:Nd->Int|mk _ _ _ b _ _ _ _ _ _ _ _=>b
def an:Nd->ByteArray|mk _ _ _ _ an _ _ _ _ _ _ _=>an
def tg:Nd->ByteArray|mk _ _ _ _ _ tg _ _ _ _ _ _=>tg
def tx:Nd->ByteArray|mk _ _ _ _ _ _ tx _ _ _ _ _=>tx
def kids:Nd->List Nd|mk _ _ _ _ _ _ _ kids _ _ _ _=>kids
def lead:Nd->List Cm|mk _ _ _ _ _ _ _ _ lead _ _ _=>lead
def ag:Nd->List Cm|mk _ _ _ _ _ _ _ _ _ ag _ _=>ag
def h:Nd->Bool|mk _ _ _ _ _ _ _ _ _ _ h _=>h
def tr:Nd->ByteArray|mk _ _ _ _ _ _ _ _ _ _ _ tr=>tr
end Nd
mutual
def YX:Nd->List AV
 |.mk k y p b an tg tx kids lead ag h tr=>[.int .i64 k,.int .i64 y,.int .i64 p,.int .i64 b,.str an,.str tg,.str tx,.sl kids.length (aO kids),cs lead,cs ag,.bool h,.str tr]
def aO:List Nd->List AV
 |[]=>[]
 |x::l=>YX x++aO l
end
def bV (x:Nd):List AV:=[.int .i64 x.k,.int .i64 x.y,.int .i64 x.p,.int .i64 x.b,.str x.an,.str x.tg,.str x.tx,.sl x.kids.length (aO x.kids),cs x.lead,cs x.ag,.bool x.h,.str x.tr]
def fd (x:Nd) (any near one:Bool) (e:Int):List AV:=[.int .i64 x.k,.int .i64 x.y,.int .i64 x.p,.int .i64 x.b,.str x.an,.str x.tg,.str x.tx,.sl x.kids.length (aO x.kids),cs x.lead,cs x.ag,.bool x.h,.str x.tr,.bool any,.bool near,.bool one,.int .i64 e]
def Pv (l:List Cm) (same:Bool) (e:Int):AV:=.agg [cs l,.bool same,.int .i64 e]
theorem pR (x:Nd):YX x=bV x:=by cases x;rw [YX];rfl
mutual
theorem YV:∀(x:Nd),mi (YX x)=true
 |.mk k y p b an tg tx kids lead ag h tr=>by have h1:=ai kids;have h2:=ay lead;have h3:=ay ag;rw [YX];simp only [mi,cs,wv,AV.pf,AV.flat,AV.one,bn h1,bn h2,bn h3,bK h1,bK h2,bK h3,h1,h2,h3,Bool.and_self]
theorem ai:∀(l:List Nd),mi (aO l)=true
 |[]=>rfl
 |x::l=>by rw [aO];exact iH (YV x) (ai l)
end
theorem jg (x:Nd):mi (bV x)=true:=by rw [←pR];exact YV x
theorem nV:∀(l m:List Nd),aO (l++m)=aO l++aO m
 |[],m=>rfl
 |c::l,m=>by rw [List.cons_append,aO,aO,nV l m,List.append_assoc]
theorem tK (x:Nd):aO [x]=bV x:=by rw [aO,aO,List.append_nil,pR]
theorem eY:∀(l:List Nd),(aO l).length=l.length*12
 |[]=>rfl
 |c::l=>by rw [aO,List.length_append,eY l,pR,List.length_cons,show (bV c).length=12 from rfl];omega
theorem lD (l:List Cm):AV.aj (eU l)=true:=bK (ay l)
theorem qJ (l:List Nd):AV.aj (aO l)=true:=bK (ai l)
theorem qg:∀{l m:List Cm},eU l=eU m->l=m
 |[],[],_=>rfl
 |[],c::m,h=>by cases h
 |c::l,[],h=>by cases h
 |⟨t,b⟩::l,⟨t',b'⟩::m,h=>by rw [eU,eU] at h;injection h with h1 h2;injection h2 with h2 h3;injection h1 with h1;injection h2 with h4 h5;have h1:t=t':=h1;have h5:b=b':=h5;rw [h1,h5,qg h3]
mutual
theorem YW:∀{x y:Nd},YX x=YX y->x=y
 |.mk k y p b an tg tx kids lead ag h tr,.mk k' y' p' b' an' X6 XV kids' F5 F9 h' V7,e=>by rw [YX,YX] at e;unfold cs at e;simp only [List.cons.injEq,AV.int.injEq,AV.str.injEq,AV.sl.injEq,AV.bool.injEq,true_and,and_true] at e;obtain ⟨e1,e2,e3,e4,e5,e6,e7,⟨-,e8⟩,⟨-,e9⟩,⟨-,e10⟩,e11,e12⟩:=e;rw [e1,e2,e3,e4,e5,e6,e7,UZ e8,qg e9,qg e10,e11,e12]
theorem UZ:∀{l m:List Nd},aO l=aO m->l=m
 |[],[],_=>rfl
 |[],c::m,h=>by have:=congrArg List.length h;rw [eY,eY,List.length_nil,List.length_cons] at this;omega
 |c::l,[],h=>by have:=congrArg List.length h;rw [eY,eY,List.length_nil,List.length_cons] at this;omega
 |x::l,y::m,h=>by rw [aO,aO] at h;obtain ⟨h1,h2⟩:=List.append_inj h (by rw [pR,pR];rfl);rw [YW h1,UZ h2]
end
theorem tN {x y:Nd} (h:bV x=bV y):x=y:=YW (by rw [pR,pR];exact h)
def c61:az:=fun args bx K=>match args,bx with
 |[.str s,.int .i64 a],[]=>s.size<=900000∧(Bk.mG s a=true->K (.bool true) [])∧(Bk.mG s a=false->(0<=a∧a<s.size)->K (.bool false) [])
 |_,_=>False
theorem PX:az.OK Tryz.prog 61 c61:=by
 refine jA (g:=Oa fun s a=>some (.bool (Bk.mG s a))) rfl fun args bx K0 h=>?_;unfold c61 at h;split at h
 ·rename_i s a;refine ⟨rfl,.bool (Bk.mG s a),by show (if _ then _ else _)=_;rw [if_pos h.1],rfl,fun K hK=>?_⟩;cases he:Bk.mG s a with
  |true=>exact hK.2.1 he
  |false=>
   refine hK.2.2 he ?_;unfold Bk.mG at he;simp only [Bool.or_eq_false_iff,decide_eq_false_iff_not] at he;omega
 ·exact h.elim
def c93:az:=fun args bx K=>match args,bx with
 |[.int .u8 c],[]=>K (.bool (Bk.wI c)) []
 |_,_=>False
theorem Sm:az.OK Tryz.prog 93 c93:=by
 refine jA (g:=pI fun c=> .bool (Bk.wI c)) rfl fun args bx K0 h=>?_;unfold c93 at h;split at h
 ·exact ⟨rfl,_,rfl,rfl,fun K hK=>hK⟩
 ·exact h.elim
def c63:az:=fun args bx K=>match args,bx with
 |[.int .u8 c],[]=>K (.bool (Bk.dB c)) []
 |_,_=>False
theorem YD:az.OK Tryz.prog 63 c63:=by
 refine jA (g:=pI fun c=> .bool (Bk.dB c)) rfl fun args bx K0 h=>?_;unfold c63 at h;split at h
 ·exact ⟨rfl,_,rfl,rfl,fun K hK=>hK⟩
 ·exact h.elim
def c32:az:=fun args bx K=>match args,bx with
 |[.str s,.int .i64 a],[]=>s.size<=900000∧∀(f t:Int),(0<=f∧f<=t∧t<=s.size∧(0<=a->a<=s.size->f<=a∧a<=t))->K (.bW [.int .i64 f,.int .i64 t]) []
 |_,_=>False
theorem MM:az.OK Tryz.prog 32 c32:=by
 refine jA (g:=Oa fun s a=>some (.bW [.int .i64 (Bk.bI s (Bk.aP s a):Nat),.int .i64 (Bk.oI s (Bk.aP s a):Nat)])) rfl fun args bx K0 h=>?_;unfold c32 at h;split at h
 ·rename_i s a;refine ⟨rfl,_,by show (if _ then _ else _)=_;rw [if_pos h.1],rfl,fun K hK=>hK.2 _ _ ?_⟩;have h1:=Bk.iF s (Bk.aP s a);have h2:=Bk.vS s (Bk.aP s a);have h3:=Bk.xq (Bk.pW s a);refine ⟨oM,oM,oM,fun h4 h5=>?_⟩;have:Bk.aP s a=a.toNat:=by unfold Bk.aP;omega
  omega
 ·exact h.elim
def c33:az:=fun args bx K=>match args,bx with
 |[.str s,.int .i64 a,.int .i64 b],[]=>(s.size<=900000∧0<=a∧0<=b∧b<=s.size)∧∀(f:Int),(a<=f∧(a<=b->f<=b)∧(b<=a->f=a))->(f<b->Bk.dB (bt s f.toNat)=false)->(Bk.dB (bt s a.toNat)=false->f=a)->K (.int .i64 f) []
 |_,_=>False
theorem JH:az.OK Tryz.prog 33 c33:=by
 refine jA (g:=Wx fun s a b=>if 0<=a∧0<=b∧b<=s.size then some (.int .i64 (Bk.iV s a.toNat b.toNat:Nat)) else none) rfl fun args bx K0 h=>?_;unfold c33 at h;split at h
 ·rename_i s a b;obtain ⟨⟨h0,h1,h2,h3⟩,-⟩:=h;refine ⟨rfl,.int .i64 (Bk.iV s a.toNat b.toNat:Nat),?_,rfl,fun K hK=>hK.2 _ ?_ ?_ ?_⟩
  ·show (if _ then (if _ then _ else _) else _)=_;rw [if_pos h0,if_pos ⟨h1,h2,h3⟩]
  ·have g1:=Bk.ER s a.toNat b.toNat;refine ⟨oM,fun h4=>?_,fun h4=>?_⟩
   ·have:=Bk.EP (s:=s) (k:=a.toNat) (m:=b.toNat) oM;omega
   ·have:Bk.iV s a.toNat b.toNat=a.toNat:=by unfold Bk.iV;rw [show b.toNat-a.toNat=0 by omega,Bk.rZ];omega
    omega
  ·intro hf;rw [Int.toNat_natCast];exact Bk.Tc oM
  ·intro hf;rw [Bk.S9 hf];omega
 ·exact h.elim
def c90:az:=fun args bx K=>match args,bx with
 |[.str s,.int .i64 a],[]=>s.size<=900000∧∀(n:Int),(0<=n∧n<=900000)->K (.int .i64 n) []
 |_,_=>False
theorem YB:az.OK Tryz.prog 90 c90:=by
 refine jA (g:=Oa fun s a=>some (.int .i64 (Bk.oC s (Bk.aP s a):Nat))) rfl fun args bx K0 h=>?_;unfold c90 at h;split at h
 ·rename_i s a;refine ⟨rfl,_,by show (if _ then _ else _)=_;rw [if_pos h.1],rfl,fun K hK=>hK.2 _ ?_⟩;have h1:=Bk.pW s a;have h2:Bk.oC s (Bk.aP s a)<=Bk.aP s a:=by
   unfold Bk.oC;split
   ·omega
   ·exact Nat.le_trans (Bk.LD s _ _) (Bk.iF s _)
  have:=h.1;omega
 ·exact h.elim
def anh:az:=fun args bx K=>match args,bx with
 |[.str s,.int .i64 a,.bool fl],[]=>(s.size<=900000∧0<=a∧a<=s.size)∧(∀(an tg:ByteArray) (p:Int),(a<=p∧p<=s.size)->K (.bW [.str an,.str tg,.int .i64 p,.int .i64 0]) [])∧(∀(an tg:ByteArray) (p e:Int),e≠0->K (.bW [.str an,.str tg,.int .i64 p,.int .i64 e]) [])
 |_,_=>False
def am8:az:=fun args bx K=>match args,bx with
 |[.str s,.int .i64 a],[]=>(s.size<=900000∧0<=a∧a<=s.size)∧(∀(t:ByteArray) (p:Int),(a<p∧p<=s.size)->K (.bW [.str t,.int .i64 p,.int .i64 0]) [])∧(∀(t:ByteArray) (p e:Int),e≠0->K (.bW [.str t,.int .i64 p,.int .i64 e]) [])
 |_,_=>False
def am6:az:=fun args bx K=>match args,bx with
 |[.str s,.int .i64 a,.bool fl],[]=>(s.size<=900000∧0<=a)∧(a<s.size->K (.bool true) [])∧K (.bool false) []
 |_,_=>False
def am1:az:=fun args bx K=>match args,bx with
 |[.str s,.int .i64 a,.int .i64 n,.bool fl],[]=>(s.size<=900000∧0<=a∧a<=s.size)∧(∀(t:ByteArray) (p:Int) (one:Bool),(a<p∧p<=s.size)->K (.bW [.str t,.int .i64 p,.bool one,.int .i64 0]) [])∧(∀(t:ByteArray) (p e:Int) (one:Bool),e≠0->K (.bW [.str t,.int .i64 p,.bool one,.int .i64 e]) [])
 |_,_=>False
theorem XL (r:Option (List Cm×Bool×Nat)):wv (QG r)=true:=by
 unfold QG;split
 ·rename_i l same p;show CB [.sl l.length (eU l),.bool same,.int .i64 p,.int .i64 0]=true;simp only [CB,wv,AV.flat,ay,bK (ay l),Bool.and_self]
 ·rfl
def amQ:az:=fun args bx K=>match args,bx with
 |[.str s,.int .i64 a,.int .i64 n],[]=>(s.size<=900000∧0<=a∧a<=s.size)∧(∀(l:List Cm) (same:Bool) (p:Int),(a<=p∧p<=s.size∧l.length+a<=p)->K (.bW [cs l,.bool same,.int .i64 p,.int .i64 0]) [])∧K (.bW [.nil,.bool false,.ql .i64,.nz .i64]) []
 |_,_=>False
theorem adg {s:ByteArray} {a n:Int} {wi:Bool} (h1:0<=a) (h2:a<=s.size) {K:AV->List (List AV)->Prop} (k1:∀(l:List Cm) (same:Bool) (p:Int),(a<=p∧p<=s.size∧l.length+a<=p)->K (.bW [cs l,.bool same,.int .i64 p,.int .i64 0]) []) (k2:K (.bW [.nil,.bool false,.ql .i64,.nz .i64]) []):K (QG (Bk.sK s a.toNat n wi)) []:=by
 cases hr:Bk.sK s a.toNat n wi with
 |none=>exact k2
 |some r=>
  obtain ⟨l,same,p⟩:=r;obtain ⟨g1,g2,g3⟩:=Bk.Jm oM hr;exact k1 l same p ⟨oM,oM,oM⟩
theorem ajK:az.OK Tryz.prog 159 amQ:=by
 refine jA (g:=Wx fun s a n=>inT s a fun q=>QG (Bk.sK s q n true)) rfl fun args bx K0 h=>?_;unfold amQ at h;split at h
 ·rename_i s a n;obtain ⟨⟨h0,h1,h2⟩,-⟩:=h;refine ⟨rfl,_,by show (if _ then (if _ then _ else _) else _)=_;rw [if_pos h0,if_pos ⟨h1,h2⟩],XL _,fun K hK=>adg h1 h2 hK.2.1 hK.2.2⟩
 ·exact h.elim
end V
namespace V
open Ab
variable {P : Program} {T : kZ} {sp : Sp} {n0 base : Nat} {σ τ : aF} {Q : zV -> aF -> Prop} {cal : BR}
inductive Fz (bx:List (List AV)) (n:Nat):AV->AV->Prop
 |same {v:AV} (h:∀i ∈ kQ v,i<n):Fz bx n v v
 |bad {v:AV}:Fz bx n v .bad
 |nil0:Fz bx n .nil (.sl 0 [])
 |box {j e z m:Nat} {c:List AV} (h1:n<=j) (h2:bx[j]?=some c) (h3:m*z<=c.length) (h4:mi (c.take (m*z))=true):Fz bx n (.dm j e z m) (.sl m (c.take (m*z)))
inductive Xr (bx:List (List AV)) (n:Nat):Tm->Tm->Prop
 |nil:Xr bx n [] []
 |drop {k:Nat} {v:AV} {l r:Tm} (h:get r k=.bad) (hl:Xr bx n l r):Xr bx n ((k,v)::l) r
 |cons {k:Nat} {v v':AV} {l r:Tm} (h:Fz bx n v v') (hl:Xr bx n l r):Xr bx n ((k,v)::l) ((k,v')::r)
inductive FzL (bx:List (List AV)) (n:Nat):List AV->List AV->Prop
 |all {l:List AV} (h:∀i ∈ dG l,i<n):FzL bx n l l
 |nil:FzL bx n [] []
 |cons {v v':AV} {l r:List AV} (h:Fz bx n v v') (hl:FzL bx n l r):FzL bx n (v::l) (v'::r)
 |app {a l r:List AV} (h:∀i ∈ dG a,i<n) (hl:FzL bx n l r):FzL bx n (a++l) (a++r)
inductive FzB (bx:List (List AV)) (n:Nat):List (List AV)->List (List AV)->Prop
 |nil {b:List (List AV)}:FzB bx n b []
 |cons {c c':List AV} {b b':List (List AV)} (h:FzL bx n c c') (hb:FzB bx n b b'):FzB bx n (c::b) (c'::b')
theorem iy:∀(a b:List AV),dG (a++b)=dG a++dG b
 |[],_=>rfl
 |x::a,b=>by rw [List.cons_append,dG,dG,iy a b,List.append_assoc]
theorem zF {i:Nat}:∀{l:List AV},i ∈ dG l↔∃x ∈ l,i ∈ kQ x
 |[]=>by simp [dG]
 |x::l=>by rw [dG,List.mem_append,zF (l:=l)];simp
theorem bQ {l:List AV} (h:mi l=true):dG l=[]:=by rw [←mX (Gw (bZ h))];exact jc (bn h)
theorem Xr.get {bx:List (List AV)} {n:Nat} {a b:Tm} (h:Xr bx n a b) (k:Nat):Fz bx n (get a k) (get b k):=by
 induction h with
 |nil=>exact .bad
 |drop h hl ih=>
  rw [bH];split
  ·rename_i e;subst e;rw [h];exact .bad
  ·exact ih
 |cons h hl ih=>
  rw [bH,bH];split
  ·exact h
  ·exact ih
theorem FzL.get {bx:List (List AV)} {n:Nat} {a b:List AV} (h:FzL bx n a b):a.length=b.length∧∀(j:Nat) (x y:AV),a[j]?=some x->b[j]?=some y->Fz bx n x y:=by
 induction h with
 |all h=>
  refine ⟨rfl,fun j x y hx hy=>?_⟩;rw [hx] at hy;cases hy;exact .same fun i hi=>h i (zF.2 ⟨x,List.mem_of_getElem? hx,hi⟩)
 |nil=>exact ⟨rfl,fun j x y hx=>by simp at hx⟩
 |cons h hl ih=>
  refine ⟨by rw [List.length_cons,List.length_cons,ih.1],fun j x y hx hy=>?_⟩;cases j with
  |zero=>simp at hx hy;subst hx hy;exact h
  |succ j=>exact ih.2 j x y (by simpa using hx) (by simpa using hy)
 |@app a l r h hl ih=>
  refine ⟨by rw [List.length_append,List.length_append,ih.1],fun j x y hx hy=>?_⟩;by_cases hj:j<a.length
  ·rw [List.getElem?_append_left hj] at hx hy;rw [hx] at hy;cases hy;exact .same fun i hi=>h i (zF.2 ⟨x,List.mem_of_getElem? hx,hi⟩)
  ·rw [List.getElem?_append_right oM] at hx hy;exact ih.2 _ x y hx hy
theorem FzB.get {bx:List (List AV)} {n:Nat} {a b:List (List AV)} (h:FzB bx n a b):∀(i:Nat) (c':List AV),b[i]?=some c'->∃c,a[i]?=some c∧FzL bx n c c':=by
 induction h with
 |nil=>intro i c' h;simp at h
 |@cons c c' b b' h hb ih=>
  intro i d hd;cases i with
  |zero=>simp at hd;subst hd;exact ⟨c,rfl,h⟩
  |succ i=>exact ih i d (by simpa using hd)
theorem Fz.row {bx:List (List AV)} {n:Nat} {x y:AV} (h:Fz bx n x y) (hr:y.isRow=true):y=x:=by
 cases h with
 |same h=>rfl
 |bad=>cases hr
 |nil0=>cases hr
 |box=>cases hr
theorem Ve {bx:List (List AV)} {n k:Nat}:∀{l:List AV},mi l=true->oZ (lh bx n (k+1)) (l.map AV.cO)=some l
 |[],_=>rfl
 |v::l,h=>by
  rw [mi] at h;simp only [Bool.and_eq_true] at h;have hd:v.cO=v:=by
   have hf:=h.1.1.1.2;cases v<;>first|rfl|(rw [AV.flat] at hf;cases hf)
  rw [List.map_cons,oZ,hd,Ve h.2];unfold lh;rw [h.1.1.1.1]
theorem Rx.fz (n:Nat) (hb:base<=n) (hl:τ.bx.length=n) (hbx:FzB σ.bx n σ.bx τ.bx) (ht:Xr σ.bx n σ.tm τ.tm) (hok:Ok τ):Rx base σ τ:=by
 intro hσ;refine ⟨hok,fun {m lim bs w a} hbl H=>?_⟩;have hn:n<=σ.bx.length:=by
  rcases Nat.eq_zero_or_pos n with e|e
  ·omega
  ·obtain ⟨c,hc,-⟩:=hbx.get (n-1) _ (List.getElem?_eq_getElem oM);have:=(List.getElem?_eq_some_iff.1 hc).1;omega
 have wF:∀b,b ∉ bs.drop n->vU lim bs n w b=lim b:=fun b hb=>by unfold vU;rw [if_neg hb]
 have htd:∀b,b ∈ bs.take n->b ∉ bs.drop n:=by intro b h1 h2;obtain ⟨i,hi⟩:=List.getElem?_of_mem h1;obtain ⟨j,hj⟩:=List.getElem?_of_mem h2;obtain ⟨hi1,hi⟩:=iK hi;rw [List.getElem?_drop] at hj;have:=gm H.BX hi hj;omega
 have hnd:∀b,b ∉ bs->b ∉ bs.drop n:=fun b h1 h2=>h1 (List.mem_of_mem_drop h2);have hsub:∀b ∈ bs.take n,b ∈ bs:=fun b h=>List.mem_of_mem_take h;have qm:=IM H n;have hfr:Fr m lim w (vU lim bs n w) w:=by refine ⟨Below.refl _ _,fun b hb hm=>⟨rfl,?_⟩,fun b _=>Dt H n b,fun _ _ _ _=>rfl,fun b cur e p h=>⟨cur,h,rfl⟩⟩;refine wF b (fun hd=>hm (H.mb b (List.mem_of_mem_drop hd)))
 have hval:∀{v v':AV} {u:Value},wv v=true->Fz σ.bx n v v'->AV.R lim bs w v u->(∀g,v.isRow=true->u.ownBlock=some g->g ∉ bs)->AV.R (vU lim bs n w) (bs.take n) w v' u∧v'.top=true∧(v'.isRow=true->v'=v):=by
  intro v v' u hw hf hR hrow;cases hf with
  |same h=>
   refine ⟨?_,yK hw,fun _=>rfl⟩;have h1:=AV.R.pV qm (yK hw) (fun g h1 h2=>⟨rfl,wF g (hnd g (hrow g h1 h2))⟩) hR;refine aeP (fun i hi b hbb=>?_) h1;rw [xQ hw] at hi;rw [List.getElem?_take,if_pos (h i hi)];exact hbb
  |bad=>exact ⟨oV _,rfl,fun h=>by cases h⟩
  |nil0=>
   rw [AV.R] at hR;exact ⟨by rw [AV.R];exact ⟨none,0,hR,Nat.le_refl _,.inl rfl⟩,rfl,fun h=>by cases h⟩
  |@box j e z mm c h1 h2 h3 h4=>
   have hz:lh σ.bx n 2 (.dm j e z mm)=some (.sl mm (c.take (mm*z))):=by unfold lh;rw [show (AV.dm j e z mm).pf=false from rfl];simp only [];rw [h2];simp only [];rw [if_pos ⟨h1,h3⟩,Ve h4];rfl
   obtain ⟨g1,g2,g3⟩:=Aw H 2 rfl hz hR;exact ⟨g1,by rw [AV.top,g2];simp,fun h=>by cases h⟩
 have ho:∀p g,Ab.Own w (bs.take n) τ.bx (Sl τ.tm a) p g->Ab.Own w bs σ.bx (Sl σ.tm a) p g:=by
  intro p g hp;cases p with
  |t k=>
   obtain ⟨p1,p2⟩:=hp;have p1':(get τ.tm k).isRow=true:=p1;have p2':(a.tmps.getD k undef).ownBlock=some g:=p2;have hz:=ht.get k;have:get τ.tm k=get σ.tm k:=hz.row p1';exact ⟨show (get σ.tm k).isRow=true from by rw [←this];exact p1',p2⟩
  |b i j=>
   obtain ⟨b,x,y,v,q1,q2,q3,q4,q5,q6⟩:=hp;obtain ⟨c,hc,hL⟩:=hbx.get i x q2;obtain ⟨hlen,hL⟩:=hL.get;have hj:j<c.length:=by rw [hlen];exact (List.getElem?_eq_some_iff.1 q3).1
   have hz:=hL j _ y (List.getElem?_eq_getElem hj) q3;have:c[j]=y:=(hz.row q4).symm;exact ⟨b,c,y,v,(iK q1).2,hc,by rw [List.getElem?_eq_getElem hj,this],q4,q5,q6⟩
 refine ⟨vU lim bs n w,bs.take n,⟨by rw [List.length_take,hl,H.len];omega,H.BX.sublist (List.take_sublist _ _),fun b h=>?_,fun b h=>H.mb b (hsub b h),fun i b x hi hx=>?_,fun k=>?_,fun k=>?_,fun b hb=>?_,fun p g hp=>⟨(H.own p g (ho p g hp)).1,fun h=>(H.own p g (ho p g hp)).2 (hsub g h)⟩,fun p q g hp hq=>H.qO p q g (ho p g hp) (ho q g hq)⟩,hfr,fun i b hi hbb=>by rw [List.getElem?_take,if_pos oM];exact hbb⟩
 ·rw [wF b (htd b h)];exact H.free b (hsub b h)
 ·obtain ⟨x0,hx0,hL⟩:=hbx.get i x hx;obtain ⟨hlen,hL⟩:=hL.get;obtain ⟨c,tl,t,g1,g2,g3⟩:=H.box i b x0 (iK hi).2 hx0;have hxw:=aY.1 hσ.bx x0 (List.mem_of_getElem? hx0);have hone:∀(j:Nat) (y:AV) (v:Value),x[j]?=some y->c[j]?=some v->AV.R (vU lim bs n w) (bs.take n) w y v∧y.top=true:=by
   intro j y v hy hv;have hj:j<x0.length:=by rw [hlen];exact (List.getElem?_eq_some_iff.1 hy).1
   obtain ⟨v2,hv2,hR⟩:=mO g2 (List.getElem?_eq_getElem hj);rw [hv] at hv2;cases hv2;have hw:=(dP.1 hxw _ (List.getElem_mem hj)).2;obtain ⟨r1,r2,-⟩:=hval hw (hL j _ y (List.getElem?_eq_getElem hj) hy) hR (fun g h1 h2=>(H.own (.b i j) g ⟨b,x0,_,v,(iK hi).2,hx0,List.getElem?_eq_getElem hj,h1,dV g1 hv,h2⟩).2);exact ⟨r1,r2⟩
  refine ⟨c,tl,t,g1,wW (by rw [AV.gK g2,hlen]) (fun j y v hy hv=>(hone j y v hy hv).1),?_⟩;rw [List.all_eq_true];intro y hy;obtain ⟨j,hj⟩:=List.getElem?_of_mem hy;have hjc:j<c.length:=by rw [AV.gK g2,hlen];exact (List.getElem?_eq_some_iff.1 hj).1
  exact (hone j y _ hj (List.getElem?_eq_getElem hjc)).2
 ·exact (hval (tH k hσ.tm) (ht.get k) (H.slot k) (fun g h1 h2=>(H.own (.t k) g ⟨h1,h2⟩).2)).1
 ·exact (hval (tH k hσ.tm) (ht.get k) (H.slot k) (fun g h1 h2=>(H.own (.t k) g ⟨h1,h2⟩).2)).2.1
 ·rw [wF b (fun hd=>?_)]
  ·exact H.top b hb
  ·have:=lU H (List.mem_of_mem_drop hd);omega
theorem Rx.prune (ks:List Nat):Rx base σ ⟨prune ks σ.tm,σ.bx⟩:=fun h=>⟨⟨iZ _ h.tm,h.bx⟩,fun _ H=>⟨_,_,H.prune ks,Fr.refl,fun _ _ _ h=>h⟩⟩
mutual
theorem Py {f:Nat->Nat}:∀{x:AV},kQ x=[]->uk f x=x
 |.ptr ..,h=>by cases h
 |.dm ..,h=>by cases h
 |.bool _,_=>rfl
 |.int _ _,_=>rfl
 |.str _,_=>rfl
 |.nil,_=>rfl
 |.nz _,_=>rfl
 |.ql _,_=>rfl
 |.low _ _ _,_=>rfl
 |.bad,_=>rfl
 |.sl _ _,_=>rfl
 |.row _ _ _ _,_=>rfl
 |.el _,_=>rfl
 |.agg l,h=>by rw [uk,qG (l:=l) h]
 |.bW l,h=>by rw [uk,qG (l:=l) h]
 |.fn f l,h=>by rw [uk,qG (l:=l) h]
theorem qG {f:Nat->Nat}:∀{l:List AV},dG l=[]->gJ f l=l
 |[],_=>rfl
 |x::l,h=>by rw [dG,List.append_eq_nil_iff] at h;rw [gJ,Py h.1,qG h.2]
end
inductive Pk (ids:List Nat):AV->AV->Prop
 |same {v:AV} (h:kQ v=[]):Pk ids v v
 |bad {v:AV}:Pk ids v .bad
 |ptr {i o:Nat} (h:mem i ids=true):Pk ids (.ptr i o) (.ptr (ids.idxOf i) o)
 |dm {i e z n:Nat} (h:mem i ids=true):Pk ids (.dm i e z n) (.dm (ids.idxOf i) e z n)
inductive qC (ids:List Nat):Tm->Tm->Prop
 |nil:qC ids [] []
 |drop {k:Nat} {v:AV} {l r:Tm} (h:get r k=.bad) (hl:qC ids l r):qC ids ((k,v)::l) r
 |cons {k:Nat} {v v':AV} {l r:Tm} (h:Pk ids v v') (hl:qC ids l r):qC ids ((k,v)::l) ((k,v')::r)
theorem Pk.ids {ids:List Nat} {x y:AV} (h:Pk ids x y) (hb:y≠.bad):(∀i ∈ kQ x,i ∈ ids)∧y=uk ids.idxOf x:=by
 cases h with
 |same h=>exact ⟨fun i hi=>by rw [h] at hi;(cases hi),(Py h).symm⟩
 |bad=>exact absurd rfl hb
 |ptr h=>exact ⟨fun i hi=>by rw [kQ,List.mem_singleton] at hi;rw [hi];exact mem_iff.1 h,rfl⟩
 |dm h=>exact ⟨fun i hi=>by rw [kQ,List.mem_singleton] at hi;rw [hi];exact mem_iff.1 h,rfl⟩
theorem qC.get {ids:List Nat} {a b:Tm} (h:qC ids a b) (k:Nat):Pk ids (get a k) (get b k):=by
 induction h with
 |nil=>exact .bad
 |drop h hl ih=>
  rw [bH];split
  ·rename_i e;subst e;rw [h];exact .bad
  ·exact ih
 |cons h hl ih=>
  rw [bH,bH];split
  ·exact h
  ·exact ih
inductive iY (bx:List (List AV)) (f:Nat->Nat) (ids:List Nat):List Nat->List (List AV)->Prop
 |nil:iY bx f ids [] []
 |same {i:Nat} {r:List Nat} {c:List AV} {b:List (List AV)} (h:bx[i]?=some c) (h2:dG c=[]) (hb:iY bx f ids r b):iY bx f ids (i::r) (c::b)
 |cons {i:Nat} {r:List Nat} {c c':List AV} {b:List (List AV)} (h:bx[i]?=some c) (h2:∀i ∈ dG c,i ∈ ids) (h3:c'=gJ f c) (hb:iY bx f ids r b):iY bx f ids (i::r) (c'::b)
theorem iY.one {bx:List (List AV)} {f:Nat->Nat} {ids:List Nat} {i k:Nat} {r:List Nat} {c c':List AV} {b:List (List AV)} (h:bx[i]?=some c) (h2:dG c=[k]) (hk:mem k ids=true) (h3:c'=gJ f c) (hb:iY bx f ids r b):iY bx f ids (i::r) (c'::b):=.cons h (fun j hj=>by rw [h2,List.mem_singleton] at hj;rw [hj];exact mem_iff.1 hk) h3 hb
theorem iY.get {bx b:List (List AV)} {f:Nat->Nat} {ids l:List Nat} (h:iY bx f ids l b):∃cs,bD bx l=some cs∧b=cs.map (gJ f)∧∀c ∈ cs,∀i ∈ dG c,i ∈ ids:=by
 induction h with
 |nil=>exact ⟨[],rfl,rfl,fun c hc=>by cases hc⟩
 |@same i r c b h h2 hb ih=>
  obtain ⟨cs,g1,rfl,g3⟩:=ih;refine ⟨c::cs,by rw [bD,h,g1],by rw [List.map_cons,qG h2],fun d hd=>?_⟩;rcases List.mem_cons.1 hd with rfl|hd
  ·rw [h2];intro i hi;cases hi
  ·exact g3 d hd
 |@cons i r c c' b h h2 h3 hb ih=>
  obtain ⟨cs,g1,rfl,g3⟩:=ih;refine ⟨c::cs,by rw [bD,h,g1],by rw [List.map_cons,h3],fun d hd=>?_⟩;rcases List.mem_cons.1 hd with rfl|hd
  ·exact h2
  ·exact g3 d hd
theorem Rx.pick (ids:List Nat) (hn:ids.Nodup) (hpre:∀i,i<base->ids[i]?=some i) (hbx:iY σ.bx ids.idxOf ids ids τ.bx) (ht:qC ids σ.tm τ.tm) (hok:Ok τ):Rx base σ τ:=by
 intro hσ;refine ⟨hok,fun {m lim bs w a} hbl H=>?_⟩;obtain ⟨cs,hc,hτ,hcl⟩:=hbx.get
 classical
 have HS:=(H.sub (S':=fun k=>(if get τ.tm k=.bad then .bad else get σ.tm k,a.tmps.getD k undef)) (fun k=>⟨rfl,by
  by_cases h:get τ.tm k=.bad
  ·right;right;exact if_pos h
  ·left;exact if_neg h⟩)).1
 have akI:=oH hσ.bx hc;have hcl':∀c ∈ cs,∀i ∈ AV.aA c,i ∈ ids:=fun c hcc i hi=>by rw [mX (xg (aY.1 akI c hcc))] at hi;exact hcl c hcc i hi
 obtain ⟨HP,h2,-⟩:=HS.pick hn hc hcl' (fun k i hi=>by
  have hz:=ht.get k;have hw:=tH k hσ.tm;simp only [] at hi;split at hi
  ·simp [AV.ids] at hi
  ·rename_i hnb;rw [xQ hw] at hi;exact (hz.ids hnb).1 i hi)
 refine ⟨lim,_,?_,Fr.refl,fun i b hi hb=>h2 i i b (hpre i hi) hb⟩;rw [hτ,←(pU akI).1];have hS:Sl τ.tm a=fun k=>((if get τ.tm k=.bad then .bad else get σ.tm k:AV).bP ids.idxOf,a.tmps.getD k undef):=by
  funext k;unfold Sl;have hz:=ht.get k;have hw:=tH k hσ.tm;congr 1;split
  ·rename_i e;rw [e];rfl
  ·rename_i hnb;rw [MB hw];exact (hz.ids hnb).2
 rw [hS];exact HP
end V
set_option maxRecDepth 100000
namespace V
open Ab
open Bk (Cm)
def Wv (a b:AV):Prop:=(∀(lim:Nat->Nat) (bs:List Nat) (w:World) (v:Value),AV.R lim bs w a v->AV.R lim bs w b v)∧(b.isRow=true->a.isRow=true∨∀(lim:Nat->Nat) (bs:List Nat) (w:World) (v:Value),AV.R lim bs w a v->v.ownBlock=none)
theorem Wv.of {a b:AV} (h:Wk a b):Wv a b:=⟨h.1,fun hb=> .inl (by rw [←h.2 hb];exact hb)⟩
theorem Wv.refl {a:AV}:Wv a a:=.of (.refl a)
theorem Wv.lM {e z:Nat}:Wv .nil (.row e z 0 []):=⟨fun lim bs w v h=>Wk.lM h,fun _=> .inr fun lim bs w v h=>by rw [AV.R] at h;rw [h];rfl⟩
theorem qi.Rm {lim:Nat->Nat} {bs:List Nat} {w:World}:∀{l k:List AV} {b o:Nat},qi l k->AV.Rm lim bs w b o l->AV.Rm lim bs w b o k
 |[],k,b,o,h,hr=>by rw [show k=[] from h];exact hr
 |a::r,k,b,o,h,hr=>by obtain ⟨c,q,rfl,h1,h2⟩:=h;rw [AV.Rm] at hr⊢;obtain ⟨⟨v,h3,h4⟩,h5⟩:=hr;exact ⟨⟨v,h3,h1.1 _ _ _ _ h4⟩,qi.Rm h2 h5⟩
theorem Wv.row {e z n:Nat} {l k:List AV} (h:qi l k) (hf:AV.aj k=true):Wv (.row e z n l) (.row e z n k):=⟨fun lim bs w v hr=>by
 rw [AV.R] at hr⊢;obtain ⟨h1,h2,h3⟩:=hr;refine ⟨by rw [h.len];exact h1,hf,h3.imp id ?_⟩;rintro ⟨g,c,cur,g1,g2,g3,g4,g5,g6,g7⟩;exact ⟨g,c,cur,g1,g2,g3,g4,g5,by rw [h.len];exact g6,qi.Rm h g7⟩,fun _=> .inl rfl⟩
theorem qi.app:∀{a b c d:List AV},qi a b->qi c d->qi (a++c) (b++d)
 |[],b,c,d,h,k=>by rw [show b=[] from h];exact k
 |x::r,b,c,d,h,k=>by obtain ⟨y,q,rfl,h1,h2⟩:=h;exact ⟨y,q++d,rfl,h1,qi.app h2 k⟩
inductive QQ:List AV->List AV->Prop
 |nil:QQ [] []
 |cons {a b:AV} {r q:List AV} (h:Wv a b) (k:QQ r q):QQ (a::r) (b::q)
inductive Xp:List (List AV)->List (List AV)->Prop
 |nil:Xp [] []
 |cons {a b:List AV} {r q:List (List AV)} (h:QQ a b) (k:Xp r q):Xp (a::r) (b::q)
inductive WvT:Tm->Tm->Prop
 |nil:WvT [] []
 |cons {k:Nat} {a b:AV} {r q:Tm} (h:Wv a b) (t:WvT r q):WvT ((k,a)::r) ((k,b)::q)
theorem QQ.refl:∀{l:List AV},QQ l l
 |[]=> .nil
 |_::_=> .cons .refl .refl
theorem QQ.Rs {lim:Nat->Nat} {bs:List Nat} {w:World} {l k:List AV} (h:QQ l k):∀{vs:List Value},AV.Rs lim bs w l vs->AV.Rs lim bs w k vs:=by
 induction h with
 |nil=>exact fun h=>h
 |cons h k ih=>
  intro vs hr;rw [AV.Rs] at hr⊢;obtain ⟨v,r,rfl,h1,h2⟩:=hr;exact ⟨v,r,rfl,h.1 _ _ _ _ h1,ih h2⟩
theorem QQ.get {l k:List AV} (h:QQ l k):∀{j:Nat} {b:AV},k[j]?=some b->∃a,l[j]?=some a∧Wv a b:=by
 induction h with
 |nil=>intro j b h;simp at h
 |@cons a b r q h k ih=>
  intro j c hc;cases j with
  |zero=>simp at hc;subst hc;exact ⟨a,rfl,h⟩
  |succ j=>obtain ⟨d,h1,h2⟩:=ih (j:=j) (by simpa using hc);exact ⟨d,by simpa using h1,h2⟩
theorem Xp.get {l k:List (List AV)} (h:Xp l k):l.length=k.length∧∀{j:Nat} {b:List AV},k[j]?=some b->∃a,l[j]?=some a∧QQ a b:=by
 induction h with
 |nil=>exact ⟨rfl,fun h=>by simp at h⟩
 |@cons a b r q h k ih=>
  refine ⟨by rw [List.length_cons,List.length_cons,ih.1],fun {j c} hc=>?_⟩;cases j with
  |zero=>simp at hc;subst hc;exact ⟨a,rfl,h⟩
  |succ j=>obtain ⟨d,h1,h2⟩:=ih.2 (j:=j) (by simpa using hc);exact ⟨d,by simpa using h1,h2⟩
theorem WvT.get {l k:Tm} (h:WvT l k) (j:Nat):Wv (get l j) (get k j):=by
 induction h with
 |nil=>exact .refl
 |cons h t ih=>
  rw [bH,bH];split
  ·exact h
  ·exact ih
theorem aeO {lim:Nat->Nat} {bs:List Nat} {w:World}:∀{l:List AV} {vs:List Value} {j:Nat} {a:AV} {v:Value},AV.Rs lim bs w l vs->l[j]?=some a->vs[j]?=some v->AV.R lim bs w a v
 |[],vs,j,a,v,h,ha,hv=>by simp at ha
 |x::l,vs,j,a,v,h,ha,hv=>by
  rw [AV.Rs] at h;obtain ⟨u,r,rfl,h1,h2⟩:=h;cases j with
  |zero=>simp at ha hv;subst ha hv;exact h1
  |succ j=>exact aeO (j:=j) h2 (by simpa using ha) (by simpa using hv)
theorem Rx.wv {base:Nat} {σ τ:aF} (hb:Xp σ.bx τ.bx) (ht:WvT σ.tm τ.tm) (hok:Ok τ):Rx base σ τ:=by
 intro hσ;refine ⟨hok,fun {m lim bs w a} hbl H=>⟨lim,bs,?_,Fr.refl,fun _ _ _ h=>h⟩⟩;have hS:∀k,(Sl τ.tm a k).2=(Sl σ.tm a k).2∧Wv (Sl σ.tm a k).1 (Sl τ.tm a k).1∧(Sl τ.tm a k).1.top=true:=fun k=>⟨rfl,ht.get k,yK (tH k hok.tm)⟩;have ho:∀p g,Ab.Own w bs τ.bx (Sl τ.tm a) p g->Ab.Own w bs σ.bx (Sl σ.tm a) p g:=by
  intro p g hp;cases p with
  |t k=>
   obtain ⟨h1,h2⟩:=hp;obtain ⟨e1,e2,-⟩:=hS k;rcases e2.2 h1 with h3|h3
   ·exact ⟨h3,by rw [←e1];exact h2⟩
   ·have:=h3 _ _ _ _ (H.slot k);rw [e1,this] at h2;cases h2
  |b i j=>
   obtain ⟨b,x,y,v,q1,q2,q3,q4,q5,q6⟩:=hp;obtain ⟨x',g1,g2⟩:=hb.get.2 q2;obtain ⟨y',g3,g4⟩:=g2.get q3;rcases g4.2 q4 with h3|h3
   ·exact ⟨b,x',y',v,q1,g1,g3,h3,q5,q6⟩
   ·obtain ⟨c,tl,t,k1,k2,-⟩:=H.box i b x' q1 g1;have hj:j<c.length:=by rw [AV.gK k2];exact (List.getElem?_eq_some_iff.1 g3).1
    have hcell:w.cell? ⟨b,j,none⟩=(c++tl)[j]?:=by have:=kD (off:=j) k1;exact this
    rw [hcell,List.getElem?_append_left hj] at q5;have:=h3 _ _ _ _ (aeO k2 g3 q5);rw [this] at q6;cases q6
 refine ⟨by rw [←hb.get.1];exact H.len,H.BX,H.free,H.mb,fun i b x hi hx=>?_,fun k=>?_,fun k=>(hS k).2.2,H.top,fun p g hp=>H.own p g (ho p g hp),fun p q g hp hq=>H.qO p q g (ho p g hp) (ho q g hq)⟩
 ·obtain ⟨x',g1,g2⟩:=hb.get.2 hx;obtain ⟨c,tl,t,h1,h2,h3⟩:=H.box i b x' hi g1;exact ⟨c,tl,t,h1,g2.Rs h2,Hy (aY.1 hok.bx x (List.mem_of_getElem? hx))⟩
 ·obtain ⟨e1,e2,-⟩:=hS k;rw [e1];exact e2.1 _ _ _ _ (H.slot k)
def rB (s:ByteArray) (p n:Int):List AV:=[.str s,.int .i64 p,.int .i64 n,.nil,.int .i64 0]
def rF (s:ByteArray) (n:Int):List AV:=[.str s,.ql .i64,.int .i64 n,.nil,.nz .i64]
def NZ (a:AV):Prop:=(∃k,a=.int .i64 k)∨a=.ql .i64
def NzA (a:AV):Prop:=(∃k,k≠0∧a=.int .i64 k)∨a=.nz .i64
theorem NZ.int (k:Int):NZ (.int .i64 k):=.inl ⟨k,rfl⟩
theorem NZ.ql:NZ (.ql .i64):=.inr rfl
theorem NzA.int {k:Int} (h:k≠0):NzA (.int .i64 k):=.inl ⟨k,h,rfl⟩
theorem NzA.nz:NzA (.nz .i64):=.inr rfl
theorem Bh.nil:Bh [] []:=rfl
theorem Bh.cons {a b:List AV} {r q:List (List AV)} (h:qi a b) (k:Bh r q):Bh (a::r) (b::q):=⟨b,q,rfl,h,k⟩
def fP (n:Nat) (l:List AV) (L:List Cm):Prop:=n=L.length∧l=eU L
theorem fP.mk (L:List Cm):fP L.length (eU L) L:=⟨rfl,rfl⟩
theorem fP.nil:fP 0 [] []:=⟨rfl,rfl⟩
theorem fP.app {n m:Nat} {l k:List AV} {L M:List Cm} (h:fP n l L) (h':fP m k M):fP (n+m) (l++k) (L++M):=⟨by rw [List.length_append,h.1,h'.1],by rw [EW,h.2,h'.2]⟩
theorem fP.inj {n:Nat} {l:List AV} {L M:List Cm} (h:fP n l L) (k:fP n l M):M=L:=qg (by rw [←h.2,←k.2])
theorem Xv {n:Nat} {l:List AV} {L:List Cm} {Q:List Cm->Prop} (hL:fP n l L) (h:∃M,fP n l M∧Q M):Q L:=by obtain ⟨M,h1,h2⟩:=h;rw [fP.inj hL h1] at h2;exact h2
theorem Wk.isc {n:Nat} {l:List AV} {L:List Cm} (h:fP n l L):Wk (.sl n l) (cs L):=by rw [h.1,h.2];exact .refl _
theorem Wk.wO:Wk .nil (cs []):=.nil
theorem Wk.apf:Wk .nil (.sl ([]:List Nd).length (aO [])):=.nil
theorem Wk.akx:Wk (.sl 0 []) (.sl ([]:List Nd).length (aO [])):=.refl _
theorem Wk.ieq {k:IntKind} {a b:Int} (h:a=b):Wk (.int k a) (.int k b):=by rw [h];exact .refl _
theorem Wk.bt {b:Bool} (h:b=true):Wk (.bool b) (.bool true):=by rw [h];exact Wk.refl _
theorem Wk.bf {b:Bool} (h:b=false):Wk (.bool b) (.bool false):=by rw [h];exact Wk.refl _
def adb:az:=fun args bx K=>match args,bx with
 |[.ptr 0 0,.int .u8 c],[[.str s,.int .i64 p,.int .i64 n,.nil,.int .i64 e]]=>(0<=p∧e=0)∧(p<s.size∧bt s p.toNat=c->K (.bool true) [rB s p n])∧(¬(p<s.size∧bt s p.toNat=c)->K (.bool false) [rB s p n])
 |_,_=>False
def alK:=fN 150 Tryz.f150 28 [.tmp 4]
theorem PY:az.OK Tryz.prog 150 adb:=by
 intro args bx K0 h;unfold adb at h;split at h
 ·rename_i c s p n e;obtain ⟨⟨h0,rfl⟩,-⟩:=h;refine alK.okW (base:=1) rfl wV wV ?_;have B:=V.base ae.nil
  conv=>whnf
  repeat' (first
  |with_reducible refine WP.seq ?_
  |(with_reducible first|refine Go.mk ?_|refine WP.qy B (au 150) ?_|refine WP.draw B (au 150) ?_|refine WP.cond ?_|refine WP.exit ?_|refine WP.skip ?_|refine WP.ret ?_);conv=>whnf
  |with_reducible refine WP.block ?_
  |with_reducible assumption
  |with_reducible refine And.intro ?_ ?_
  |exact cL
  |(with_reducible intro h);first|(cases h;done)|(try simp only [lG,reduceCtorEq] at h);first|done|(exfalso;omega)|replace h:=h trivial aZ|replace h:=h aZ|skip
  |fail)
  ·refine af.bool (fun hb=>?_) (fun hb=>?_)
   ·exact af.mk rfl rfl fun K hK=>hK.2.1 ⟨aZ,of_decide_eq_true hb⟩
   ·exact af.mk rfl rfl fun K hK=>hK.2.2 fun hh=>of_decide_eq_false hb hh.2
  ·exact af.mk rfl rfl fun K hK=>hK.2.2 oM
 ·exact h.elim
def amP:az:=fun args bx K=>match args,bx with
 |[.ptr 0 0],[[.str s,.int .i64 p,.int .i64 n,.nil,.int .i64 e]]=>(s.size<=900000∧0<=p∧e=0)∧(p<s.size->K (.bool true) [rB s p n])∧K (.bool false) [rB s p n]
 |_,_=>False
def alC:=fN 160 Tryz.f160 17 [.tmp 2]
theorem ad1:az.OK Tryz.prog 160 amP:=by
 intro args bx K0 h;unfold amP at h;split at h
 ·rename_i s p n e;obtain ⟨⟨h00,h0,rfl⟩,-⟩:=h;refine alC.okW (base:=1) rfl wV wV ?_;have B:=V.base (ae.cons PY (ae.cons PX ae.nil))
  conv=>whnf
  repeat' (first
  |with_reducible refine WP.seq ?_
  |(with_reducible first|refine Go.mk ?_|refine WP.qy B (au 160) ?_|refine WP.draw B (au 160) ?_|refine WP.cond ?_|refine WP.exit ?_|refine WP.skip ?_|refine WP.ret ?_);conv=>whnf
  |with_reducible refine WP.block ?_
  |with_reducible assumption
  |with_reducible refine And.intro ?_ ?_
  |exact cL
  |(with_reducible intro h);first|(cases h;done)|(try simp only [lG,reduceCtorEq] at h);first|done|(exfalso;omega)|replace h:=h trivial aZ|replace h:=h aZ|skip
  |fail)
  all_goals first
   |exact af.mk rfl rfl fun K hK=>hK.2.1 oM
   |exact af.mk rfl rfl fun K hK=>hK.2.2
 ·exact h.elim
def CS (s:ByteArray) (p:Int) (near:Bool):Bool:=decide (p<s.size) && decide (bt s p.toNat=58) && (near||Bk.mG s (p+1)||Bk.wI (bt s (p+1).toNat))
def amN:az:=fun args bx K=>match args,bx with
 |[.ptr 0 0,.bool near],[[.str s,.int .i64 p,.int .i64 n,.nil,.int .i64 e]]=>(s.size<=900000∧0<=p∧e=0)∧(CS s p near=true->(p<s.size∧bt s p.toNat=58)->Bk.dB (bt s p.toNat)=false->K (.bool true) [rB s p n])∧(CS s p near=false->K (.bool false) [rB s p n])
 |_,_=>False
theorem Ug {s:ByteArray} {p:Int} (h:p<s.size∧bt s p.toNat=58):Bk.dB (bt s p.toNat)=false:=by rw [h.2];rfl
def aly:=fN 164 Tryz.f164 35 [.tmp 4]
theorem UL:az.OK Tryz.prog 164 amN:=by
 intro args bx K0 h;unfold amN at h;split at h
 ·rename_i near s p n e;obtain ⟨⟨h00,h0,rfl⟩,-⟩:=h;refine aly.okW (base:=1) rfl wV wV ?_;have B:=V.base (ae.cons PY (ae.cons PX (ae.cons Sm ae.nil)))
  conv=>whnf
  repeat' (first
  |with_reducible refine WP.seq ?_
  |(with_reducible first|refine Go.mk ?_|refine WP.qy B (au 164) ?_|refine WP.draw B (au 164) ?_|refine WP.cond ?_|refine WP.exit ?_|refine WP.skip ?_|refine WP.ret ?_);conv=>whnf
  |with_reducible refine WP.block ?_
  |with_reducible assumption
  |with_reducible refine And.intro ?_ ?_
  |exact cL
  |(with_reducible intro h);first|(cases h;done)|(try simp only [lG,reduceCtorEq] at h);first|done|(exfalso;omega)|replace h:=h trivial aZ|replace h:=h aZ|skip
  |fail)
  all_goals first
   |exact af.mk rfl rfl fun K hK=>hK.2.1 (by simp [CS, *]) aZ (Ug aZ)
   |exact af.mk rfl rfl fun K hK=>hK.2.2 (by cases hh:CS s p near<;>simp_all [CS])
   |(refine af.bool (fun hb=>?_) (fun hb=>?_)
     ·exact af.mk rfl rfl fun K hK=>hK.2.1 (by simp [CS, *]) aZ (Ug aZ)
     ·exact af.mk rfl rfl fun K hK=>hK.2.2 (by simp [CS, *]))
 ·exact h.elim
def ac8:az:=fun args bx K=>match args,bx with
 |[.ptr 0 0],[[.str s,.int .i64 p,.int .i64 n,.nil,.int .i64 e]]=>(0<=p∧e=0)∧(p<s.size->K (.bool true) [rB s p n])∧K (.bool false) [rB s p n]
 |_,_=>False
def alH:=fN 153 Tryz.f153 13 [.tmp 2]
theorem YH:az.OK Tryz.prog 153 ac8:=by
 intro args bx K0 h;unfold ac8 at h;split at h
 ·rename_i s p n e;obtain ⟨⟨h0,rfl⟩,-⟩:=h;refine alH.okW (base:=1) rfl wV wV ?_;have B:=V.base (ae.cons PY ae.nil)
  conv=>whnf
  repeat' (first
  |with_reducible refine WP.seq ?_
  |(with_reducible first|refine Go.mk ?_|refine WP.qy B (au 153) ?_|refine WP.draw B (au 153) ?_|refine WP.cond ?_|refine WP.exit ?_|refine WP.skip ?_|refine WP.ret ?_);conv=>whnf
  |with_reducible refine WP.block ?_
  |with_reducible assumption
  |with_reducible refine And.intro ?_ ?_
  |exact cL
  |(with_reducible intro h);first|(cases h;done)|(try simp only [lG,reduceCtorEq] at h);first|done|(exfalso;omega)|replace h:=h trivial aZ|replace h:=h aZ|skip
  |fail)
  all_goals first
   |exact af.mk rfl rfl fun K hK=>hK.2.1 oM
   |exact af.mk rfl rfl fun K hK=>hK.2.2
 ·exact h.elim
def ac7:az:=fun args bx K=>match args,bx with
 |[.ptr 0 0,.int .i64 a],[[.str s,.int .i64 p,.int .i64 n,.nil,.int .i64 e]]=>(s.size<=900000∧e=0)∧∀f:Int,(0<=f∧f<=s.size)->K (.int .i64 f) [rB s p n]
 |_,_=>False
def alE:=fN 156 Tryz.f156 17 [.tmp 4]
theorem YG:az.OK Tryz.prog 156 ac7:=by
 intro args bx K0 h;unfold ac7 at h;split at h
 ·rename_i a s p n e;obtain ⟨⟨h0,rfl⟩,-⟩:=h;refine alE.okW (base:=1) rfl wV wV ?_;have B:=V.base (ae.cons MM ae.nil)
  conv=>whnf
  repeat' (first
  |with_reducible refine WP.seq ?_
  |(with_reducible first|refine Go.mk ?_|refine WP.qy B (au 156) ?_|refine WP.draw B (au 156) ?_|refine WP.cond ?_|refine WP.exit ?_|refine WP.skip ?_|refine WP.ret ?_);conv=>whnf
  |with_reducible refine WP.block ?_
  |with_reducible assumption
  |with_reducible refine And.intro ?_ ?_
  |exact cL
  |(with_reducible intro h);first|(cases h;done)|(try simp only [lG,reduceCtorEq] at h);first|done|(exfalso;omega)|replace h:=h trivial aZ|replace h:=h aZ|skip
  |fail)
  all_goals exact af.mk rfl rfl fun K hK=>hK.2 _ oM
 ·exact h.elim
def ada:az:=fun args bx K=>match args,bx with
 |[.ptr 0 0,a,e],[[.str s,.int .i64 p,.int .i64 n,.nil,.int .i64 c]]=>(NZ a∧NzA e∧c=0)∧K (.bool false) [rF s n]
 |_,_=>False
def alJ:=fN 151 Tryz.f151 20 [.tmp 6]
theorem II:az.OK Tryz.prog 151 ada:=by
 intro args bx K0 h;unfold ada at h;split at h
 ·rename_i a e s p n c;obtain ⟨⟨ha,he,rfl⟩,-⟩:=h;have B:=V.base ae.nil;rcases ha with ⟨k,rfl⟩|rfl<;>rcases he with ⟨j,hj,rfl⟩|rfl
  all_goals
   refine alJ.okW (base:=1) rfl wV wV ?_
   conv=>whnf
   repeat' (first
   |with_reducible refine WP.seq ?_
   |(with_reducible first|refine Go.mk ?_|refine WP.qy B (au 151) ?_|refine WP.draw B (au 151) ?_|refine WP.cond ?_|refine WP.exit ?_|refine WP.skip ?_|refine WP.ret ?_);conv=>whnf
   |with_reducible refine WP.block ?_
   |with_reducible assumption
   |with_reducible refine And.intro ?_ ?_
   |exact cL
   |(with_reducible intro h);first|(cases h;done)|(try simp only [lG,reduceCtorEq] at h);first|done|(exfalso;omega)|replace h:=h trivial aZ|replace h:=h aZ|skip
   |fail)
   all_goals exact af.aW kV kV rfl rfl fun K hK=>hK.2
 ·exact h.elim
def ac9:az:=fun args bx K=>match args,bx with
 |[.ptr 0 0],[[.str s,.int .i64 p,.int .i64 n,.nil,.int .i64 e]]=>(s.size<=900000∧0<=p∧p<=s.size∧e=0)∧(∀(l:List Cm) (same:Bool) (q:Int),(p<=q∧q<=s.size∧l.length+p<=q)->K (.bW [.agg [cs l,.bool same,.int .i64 p],.bool true]) [rB s q n])∧K (.bW [.agg [.sl 0 [],.bool false,.int .i64 0],.bool false]) [rF s n]
 |_,_=>False
def alI:=fN 152 Tryz.f152 46 [.cell 2 170,.tmp 3]
theorem KA:az.OK Tryz.prog 152 ac9:=by
 intro args bx K0 h;unfold ac9 at h;split at h
 ·rename_i s p n e;obtain ⟨⟨h0,h1,h2,rfl⟩,-⟩:=h;have B:=V.base (ae.cons ajK (ae.cons II ae.nil));refine alI.okW (base:=1) rfl wV wV ?_
  conv=>whnf
  repeat' (first
  |with_reducible refine WP.seq ?_
  |(with_reducible first|refine Go.mk ?_|refine WP.qy B (au 152) ?_|refine WP.draw B (au 152) ?_|refine WP.cond ?_|refine WP.exit ?_|refine WP.skip ?_|refine WP.ret ?_);conv=>whnf
  |with_reducible refine WP.block ?_
  |with_reducible assumption
  |with_reducible refine And.intro ?_ ?_
  |exact cL
  |(with_reducible intro h);first|(cases h;done)|(try simp only [lG,reduceCtorEq] at h);first|done|(exfalso;omega)|replace h:=h trivial aZ|replace h:=h aZ|skip
  |fail)
  all_goals first
   |exact af.aW kV kV wV wV fun K hK=>hK.2.1 _ _ _ aZ
   |exact af.aW kV kV wV wV fun K hK=>hK.2.2
 ·exact h.elim
def ac6:az:=fun args bx K=>match args,bx with
 |[.sl n l,.sl m k],[]=>(n+m<=100000000∧l.length=n*2∧k.length=m*2∧mi l=true∧mi k=true)∧K (.sl (n+m) (l++k)) []
 |_,_=>False
def alD:=fN 157 Tryz.f157 9 [.tmp 4]
theorem UM:az.OK Tryz.prog 157 ac6:=by
 intro args bx K0 h;unfold ac6 at h;split at h
 ·rename_i n l m k;obtain ⟨⟨h0,h1,h2,h3,h4⟩,-⟩:=h;have hw:iE [AV.sl n l,AV.sl m k]=true:=by rw [iE,iE,iE,wv,wv,h3,h4];rfl
  refine alD.okW (base:=0) rfl hw rfl ?_;have B:=V.base ae.nil
  conv=>whnf
  repeat' (first
  |with_reducible refine WP.seq ?_
  |(with_reducible first|refine Go.mk ?_|refine WP.qy B (au 157) ?_|refine WP.draw B (au 157) ?_|refine WP.cond ?_|refine WP.exit ?_|refine WP.skip ?_|refine WP.ret ?_);conv=>whnf
  |with_reducible refine WP.block ?_
  |with_reducible assumption
  |with_reducible refine And.intro ?_ ?_
  |exact cL
  |(with_reducible intro h);first|(cases h;done)|(try simp only [lG,reduceCtorEq] at h);first|done|(exfalso;omega)|replace h:=h trivial aZ|replace h:=h aZ|skip
  |fail)
  all_goals exact af.aW Wk.row (Bh.refl _) (iH h3 h4) rfl fun K hK=>hK.2
 ·exact h.elim
def BK:Nd:=.mk 1 1 (-1) 0 ByteArray.empty ByteArray.empty ByteArray.empty [] [] [] false ByteArray.empty
def agJ:List AV:=[.int .i64 1,.int .i64 1,.int .i64 (-1),.int .i64 0,.str ByteArray.empty,.str ByteArray.empty,.str ByteArray.empty,.sl 0 [],.sl 0 [],.sl 0 [],.bool false,.str ByteArray.empty]
def anj:az:=fun args bx K=>match args,bx with
 |[],[]=>K (.agg agJ) []
 |_,_=>False
def amg:=fN 112 Tryz.f112 2 [.cell 0 35]
theorem Dl:az.OK Tryz.prog 112 anj:=by
 intro args bx K0 h;unfold anj at h;split at h
 ·refine amg.okW (base:=0) rfl rfl rfl ?_;have B:=V.base ae.nil
  conv=>whnf
  repeat' (first
  |with_reducible refine WP.seq ?_
  |(with_reducible first|refine Go.mk ?_|refine WP.qy B (au 112) ?_|refine WP.draw B (au 112) ?_|refine WP.cond ?_|refine WP.exit ?_|refine WP.skip ?_|refine WP.ret ?_);conv=>whnf
  |with_reducible refine WP.block ?_
  |with_reducible assumption
  |with_reducible refine And.intro ?_ ?_
  |exact cL
  |(with_reducible intro h);first|(cases h;done)|(try simp only [lG,reduceCtorEq] at h);first|done|(exfalso;omega)|replace h:=h trivial aZ|replace h:=h aZ|skip
  |fail)
  all_goals exact af.aW kV kV rfl wV fun K hK=>hK
 ·exact h.elim
def c76:az:=fun args bx K=>match args,bx with
 |[.agg [.int .i64 k,.int .i64 y,.int .i64 p,.int .i64 b,.str an,.str tg,.str tx,.sl n l,.sl n1 l1,.sl n2 l2,.bool h,.str tr]],[]=>(mi l=true∧mi l1=true∧mi l2=true)∧(k=1∧y=1∧tx=ByteArray.empty->K (.bool true) [])∧(¬(k=1∧y=1∧tx=ByteArray.empty)->K (.bool false) [])
 |_,_=>False
def aqi:=fN 76 Tryz.f76 16 [.tmp 2]
theorem atL:az.OK Tryz.prog 76 c76:=by
 intro args bx K0 h;unfold c76 at h;split at h
 ·rename_i k y p b an tg tx n l n1 l1 n2 l2 h tr;obtain ⟨⟨h0,h1,h2⟩,-⟩:=h;have hw:iE [AV.agg [.int .i64 k,.int .i64 y,.int .i64 p,.int .i64 b,.str an,.str tg,.str tx,.sl n l,.sl n1 l1,.sl n2 l2,.bool h,.str tr]]=true:=by simp [iE,wv,uX,AV.flat,AV.one,h0,h1,h2,bK h0,bK h1,bK h2]
  refine aqi.okW (base:=0) rfl hw rfl ?_;have B:=V.base ae.nil
  conv=>whnf
  repeat' (first
  |with_reducible refine WP.seq ?_
  |(with_reducible first|refine Go.mk ?_|refine WP.qy B (au 76) ?_|refine WP.draw B (au 76) ?_|refine WP.cond ?_|refine WP.exit ?_|refine WP.skip ?_|refine WP.ret ?_);conv=>whnf
  |with_reducible refine WP.block ?_
  |with_reducible assumption
  |with_reducible refine And.intro ?_ ?_
  |exact cL
  |(with_reducible intro h);first|(cases h;done)|(try simp only [lG,reduceCtorEq] at h);first|done|(exfalso;omega)|replace h:=h trivial aZ|replace h:=h aZ|skip
  |fail)
  all_goals first
   |(refine af.bool (fun hb=>?_) (fun hb=>?_)
     ·exact af.mk rfl rfl fun K hK=>hK.2.1 ⟨aZ,aZ,of_decide_eq_true hb⟩
     ·exact af.mk rfl rfl fun K hK=>hK.2.2 fun hh=>of_decide_eq_false hb hh.2.2)
   |exact af.mk rfl rfl fun K hK=>hK.2.2 oM
 ·exact h.elim
mutual
def wt:Nd->Nat
 |.mk k y p b an tg tx kids lead ag h tr=>1+lead.length+ag.length+iJ kids
def iJ:List Nd->Nat
 |[]=>0
 |x::l=>wt x+iJ l
end
theorem yL (x:Nd):wt x=1+x.lead.length+x.ag.length+iJ x.kids:=by cases x;rw [wt];rfl
theorem Ud:∀{l:List Nd} {i:Nat} {x:Nd},l[i]?=some x->wt x<=iJ l
 |[],i,x,h=>by simp at h
 |y::l,i,x,h=>by
  rw [iJ];cases i with
  |zero=>simp at h;subst h;omega
  |succ i=>have:=Ud (l:=l) (i:=i) (x:=x) (by simpa using h);omega
theorem xe:∀(l m:List Nd),iJ (l++m)=iJ l+iJ m
 |[],m=>by rw [List.nil_append,iJ];omega
 |x::l,m=>by rw [List.cons_append,iJ,iJ,xe l m];omega
theorem Aq:∀(l:List Nd),l.length<=iJ l
 |[]=>Nat.zero_le _
 |x::l=>by have:=Aq l;have h:=yL x;rw [iJ,List.length_cons];omega
theorem YU:∀{l:List Nd} {i:Nat} (h:i<l.length),∃r,(aO l).drop (i*12)=bV l[i]++r
 |[],i,h=>by simp at h
 |x::l,0,h=>⟨aO l,by rw [Nat.zero_mul,List.drop_zero,aO,pR];rfl⟩
 |x::l,i+1,h=>by obtain ⟨r,hr⟩:=YU (l:=l) (i:=i) (by simpa using h);refine ⟨r,?_⟩;rw [aO,Nat.add_mul,Nat.one_mul,Nat.add_comm,←List.drop_drop,pR,List.drop_left' (by rfl)];exact hr
def agV (m:Nat):az:=fun args bx K=>match args,bx with
 |[.agg c],[]=>∃x:Nd,c=bV x∧(wt x<m∧m<=100000000)∧∀h:Int,(0<=h∧h<=wt x)->K (.int .i64 h) []
 |_,_=>False
def alv:=fN 166 Tryz.f166 31 [.tmp 2]
theorem aiq.xt {p:Prop} (g:p:=by ((first|(obtain ⟨r,hr⟩:=YU (l:=x.kids) (i:=i.toNat) oM;refine ⟨_,r,hr,rfl,?_⟩)|(refine ⟨x.kids[i.toNat]'oM,rfl,?_⟩;have hw:=Ud (l:=x.kids) (List.getElem?_eq_getElem (show i.toNat<x.kids.length by omega)))|(refine ⟨_,_,?_,Rx.refl,_,_,rfl,⟨?_,?_,rfl⟩,?_,?_⟩)|((with_reducible refine (?_:af _ _ _ _ _));first|exact af.mk rfl rfl fun K hK=>by obtain ⟨y,he,_,hK⟩:=hK;cases tN he;exact hK _ oM)|fail);(repeat' (first|exact dw|fail));first|done|fail)):p:=g
theorem ajF:∀m,az.OK Tryz.prog 166 (agV m):=by
 intro m
 induction m with
 |zero=>
  intro args bx K0 h;unfold agV at h;split at h
  ·obtain ⟨x,-,h1,-⟩:=h;omega
  ·exact h.elim
 |succ m ih=>
  intro args bx K0 h;unfold agV at h;split at h
  ·rename_i c;obtain ⟨x,rfl,⟨h1,h2⟩,-⟩:=h;refine alv.okW (base:=0) rfl wV rfl ?_;have B:=V.base (ae.cons ih ae.nil);have hx:=yL x
   conv=>whnf
   repeat' (first
   |with_reducible refine WP.seq ?_
   |(with_reducible first|refine Go.mk ?_|refine WP.qy B (au 166) ?_|refine WP.draw B (au 166) ?_|refine WP.cond ?_|refine WP.exit ?_|refine WP.skip ?_|refine WP.ret ?_);conv=>whnf
   |with_reducible refine WP.block ?_
   |with_reducible assumption
   |with_reducible refine And.intro ?_ ?_
   |exact cL
   |(with_reducible intro h);first|(cases h;done)|(try simp only [lG,reduceCtorEq] at h);first|done|(exfalso;omega)|replace h:=h trivial aZ|replace h:=h aZ|skip
   |fail)
   have hl:=eY x.kids;have hlw:=Aq x.kids;refine WP.loop (fun k τ=>∃i h:Int,τ=⟨[(4,.int .i64 i),(3,.int .i64 h),(1,.ptr 0 0)],[bV x]⟩∧(0<=i∧i<=x.kids.length∧k=(x.kids.length-i).toNat)∧0<=h∧h<=iJ x.kids) (k:=x.kids.length) ⟨0,0,rfl,⟨oM,oM,oM⟩,oM,oM⟩ ?_;rintro k _ ⟨i,h,rfl,⟨hi,hik,rfl⟩,hh,hhw⟩;let zA:=(au 166)
   open aiq in exact dw
  ·exact h.elim
end V
end
namespace Bk
def aiB:List Int:=[0,7,8,9,10,11,12,13,27,9,32,34,47,92,133,160,8232,8233]
def OG (i:Nat):Int:=aiB.getD i 0
def LET:ByteArray:=⟨#[48,97,98,116,110,118,102,114,101,9,32,34,47,92,78,95,76,80]⟩
def IP (c:Int):Nat->Nat->Option Nat
 |0,_=>none
 |f+1,k=>if bt LET k=c then some k else IP c f (k+1)
def gI (r:Int):Bool:=decide (0<=r) && decide (r<=1114111) && (decide (r<55296)||decide (57343<r))
def loI (x:Int):Int:=bits BinOp.or IntKind.i32 128 (bits BinOp.and IntKind.i32 x 63) % 256
def EZ (r:Int):List Int:=
 if r<128 then [r] else if r<2048 then [192+r/64,loI r] else if r<65536 then [bits BinOp.or IntKind.i32 224 (r/4096) % 256,loI (r/64),loI r]
 else [bits BinOp.or IntKind.i32 240 (r/262144) % 256,loI (r/4096),loI (r/64),loI r]
def sJ (r:Int):ByteArray:=strOfNums (EZ r)
theorem Gh (r:Int):(sJ r).size<=4:=by
 unfold sJ;rw [strOfNums_size];unfold EZ;split
 ·show 1<=4;omega
 split
 ·show 2<=4;omega
 split
 ·show 3<=4;omega
 ·show 4<=4;omega
end Bk
set_option maxRecDepth 20000 in
theorem XZ (i:Nat) (w:World) (hi:i<18):Calls Tryz.prog 148 #[.int .i64 i] w fun e w'=>e=.returned (.int .i32 (Bk.OG i))∧w=w':=by
 rcases (by omega:i=0∨i=1∨i=2∨i=3∨i=4∨i=5∨i=6∨i=7∨i=8∨i=9∨i=10∨i=11∨i=12∨i=13∨i=14∨i=15∨i=16∨i=17) with rfl|rfl|rfl|rfl|rfl|rfl|rfl|rfl|rfl|rfl|rfl|rfl|rfl|rfl|rfl|rfl|rfl|rfl
 all_goals
  go_enter Tryz.func148,Tryz.ntmps148
  go_wp2_with fail
  go_ret
  first
   |exact ⟨rfl,rfl⟩
   |exact ⟨je dK,rfl⟩
theorem ku (r:Int) (w:World):Calls Tryz.prog 149 #[.int .i32 r] w fun e w'=>e=.returned (.bool (Bk.gI r))∧w=w':=by
 by_cases h0:0<=r
 ·by_cases h1:r<=1114111
  ·by_cases h2:r<55296
   ·have HE:Hid (Bk.gI r=true):=Lib.hid (by unfold Bk.gI;simp [h0,h1,h2])
    go_enter Tryz.func149,Tryz.ntmps149
    go_wp2_with fail
    go_ret
    exact ⟨gV (by rw [HE.out]),rfl⟩
   ·by_cases h3:57343<r
    ·have HE:Hid (Bk.gI r=true):=Lib.hid (by unfold Bk.gI;simp [h0,h1,h3])
     go_enter Tryz.func149,Tryz.ntmps149
     go_wp2_with fail
     go_ret
     exact ⟨gV (by rw [HE.out]),rfl⟩
    ·have HE:Hid (Bk.gI r=false):=Lib.hid (by unfold Bk.gI;simp [h2,h3])
     go_enter Tryz.func149,Tryz.ntmps149
     go_wp2_with fail
     go_ret
     exact ⟨gV (by rw [HE.out]),rfl⟩
  ·have HE:Hid (Bk.gI r=false):=Lib.hid (by unfold Bk.gI;simp [h1])
   go_enter Tryz.func149,Tryz.ntmps149
   go_wp2_with fail
   go_ret
   exact ⟨gV (by rw [HE.out]),rfl⟩
 ·have HE:Hid (Bk.gI r=false):=Lib.hid (by unfold Bk.gI;simp [h0])
  go_enter Tryz.func149,Tryz.ntmps149
  go_wp2_with fail
  go_ret
  exact ⟨gV (by rw [HE.out]),rfl⟩
theorem Eb (xs:List Int) (w:World):(convert 90 9 (.slice (some ⟨w.heap.size,0,none⟩) xs.length xs.length)).run Tryz.prog (w.alloc (.cells (xs.map (Value.int .u8)).toArray 5))=.ok (.string (strOfNums xs)) (w.alloc (.cells (xs.map (Value.int .u8)).toArray 5)):=by refine run_convert_bytes_arg (P:=Tryz.prog) _ 90 5 Tryz.underlying90 Tryz.underlying5 w.heap.size 0 xs.length xs.length xs rfl (fun i hi=>?_) 9 Tryz.underlying9;rw [Nat.zero_add,Lib.cell_of_heap (heap_alloc_new w (.cells (xs.map (Value.int .u8)).toArray 5))];simp [List.getElem?_map,List.getElem?_eq_getElem hi,List.getD_eq_getElem?_getD]
set_option maxRecDepth 100000 in
theorem Xd (r:Int) (w:World) (hr:Bk.gI r=true):Calls Tryz.prog 139 #[.int .i32 r] w fun e w'=>e=.returned (.string (Bk.sJ r))∧Below w.heap.size w w':=by
 have cv1:∀a:Int,(convert 90 9 (.slice (some ⟨w.heap.size,0,none⟩) 1 1)).run Tryz.prog (w.alloc (.cells #[.int .u8 a] 5))=.ok (.string (strOfNums [a])) (w.alloc (.cells #[.int .u8 a] 5)):=fun a=>Eb [a] w;have cv2:∀a b:Int,(convert 90 9 (.slice (some ⟨w.heap.size,0,none⟩) 2 2)).run Tryz.prog (w.alloc (.cells #[.int .u8 a,.int .u8 b] 5))=.ok (.string (strOfNums [a,b])) (w.alloc (.cells #[.int .u8 a,.int .u8 b] 5)):=fun a b=>Eb [a,b] w;have cv3:∀a b c:Int,(convert 90 9 (.slice (some ⟨w.heap.size,0,none⟩) 3 3)).run Tryz.prog (w.alloc (.cells #[.int .u8 a,.int .u8 b,.int .u8 c] 5))=.ok (.string (strOfNums [a,b,c])) (w.alloc (.cells #[.int .u8 a,.int .u8 b,.int .u8 c] 5)):=fun a b c=>Eb [a,b,c] w;have cv4:∀a b c d:Int,(convert 90 9 (.slice (some ⟨w.heap.size,0,none⟩) 4 4)).run Tryz.prog (w.alloc (.cells #[.int .u8 a,.int .u8 b,.int .u8 c,.int .u8 d] 5))=.ok (.string (strOfNums [a,b,c,d])) (w.alloc (.cells #[.int .u8 a,.int .u8 b,.int .u8 c,.int .u8 d] 5)):=fun a b c d=>Eb [a,b,c,d] w;have h0:0<=r:=by unfold Bk.gI at hr;simp at hr;omega
 have h4:r<=1114111:=by unfold Bk.gI at hr;simp at hr;omega
 by_cases h1:r<128
 ·have HE:Hid (Bk.sJ r=strOfNums ([r])):=Lib.hid (by unfold Bk.sJ Bk.EZ;rw [if_pos h1])
  go_enter Tryz.func139,Tryz.ntmps139
  go_wp2_with (go_at_call 149;refine (ku _ _).mono ?_;rintro e w' ⟨rfl,rfl⟩;rw [hr])
  go_ret
  exact ⟨xG (by rw [HE.out]),(Below.refl _ _).alloc (Nat.le_refl _) _⟩
 ·by_cases h2:r<2048
  ·have HE:Hid (Bk.sJ r=strOfNums ([192+r/64,bits BinOp.or IntKind.i32 128 (bits BinOp.and IntKind.i32 r 63) % 256])):=Lib.hid (by unfold Bk.sJ Bk.EZ;rw [if_neg h1,if_pos h2];rfl)
   go_enter Tryz.func139,Tryz.ntmps139
   go_wp2_with (go_at_call 149;refine (ku _ _).mono ?_;rintro e w' ⟨rfl,rfl⟩;rw [hr])
   go_ret
   exact ⟨xG (by rw [HE.out]),(Below.refl _ _).alloc (Nat.le_refl _) _⟩
  ·by_cases h3:r<65536
   ·have HE:Hid (Bk.sJ r=strOfNums ([bits BinOp.or IntKind.i32 224 (r/4096) % 256,bits BinOp.or IntKind.i32 128 (bits BinOp.and IntKind.i32 (r/64) 63) % 256,bits BinOp.or IntKind.i32 128 (bits BinOp.and IntKind.i32 r 63) % 256])):=Lib.hid (by unfold Bk.sJ Bk.EZ;rw [if_neg h1,if_neg h2,if_pos h3];rfl)
    go_enter Tryz.func139,Tryz.ntmps139
    go_wp2_with (go_at_call 149;refine (ku _ _).mono ?_;rintro e w' ⟨rfl,rfl⟩;rw [hr])
    go_ret
    exact ⟨xG (by rw [HE.out]),(Below.refl _ _).alloc (Nat.le_refl _) _⟩
   ·have HE:Hid (Bk.sJ r=strOfNums ([bits BinOp.or IntKind.i32 240 (r/262144) % 256,bits BinOp.or IntKind.i32 128 (bits BinOp.and IntKind.i32 (r/4096) 63) % 256,bits BinOp.or IntKind.i32 128 (bits BinOp.and IntKind.i32 (r/64) 63) % 256,bits BinOp.or IntKind.i32 128 (bits BinOp.and IntKind.i32 r 63) % 256])):=Lib.hid (by unfold Bk.sJ Bk.EZ;rw [if_neg h1,if_neg h2,if_neg h3];rfl)
    go_enter Tryz.func139,Tryz.ntmps139
    go_wp2_with (go_at_call 149;refine (ku _ _).mono ?_;rintro e w' ⟨rfl,rfl⟩;rw [hr])
    go_ret
    exact ⟨xG (by rw [HE.out]),(Below.refl _ _).alloc (Nat.le_refl _) _⟩
namespace Bk
def sD (s:ByteArray) (q n:Nat):Nat->Nat->Int->Option Int
 |0,_,_=>none
 |f+1,i,r=>if i<n then (if IY (bt s (q+2+i))<0∨1114111<r then none else sD s q n f (i+1) (r*16+IY (bt s (q+2+i)))) else some r
theorem xU (c:Int):-1<=IY c∧IY c<=15:=by
 unfold IY
 repeat' split
 all_goals omega
def yw (c:Int):Nat:=if c=120 then 2 else if c=117 then 4 else if c=85 then 8 else 0
def Ti (s:ByteArray) (q:Nat):Option (Int×Nat):=
 if s.size<q+2 then none
 else match IP (bt s (q+1)) 18 0 with
  |some i=>some (OG i,q+2)
  |none=>
   if yw (bt s (q+1))=0∨s.size<q+2+yw (bt s (q+1)) then none
   else match sD s q (yw (bt s (q+1))) 9 0 0 with
    |some r=>if gI r=true then some (r,q+2+yw (bt s (q+1))) else none
    |none=>none
end Bk
theorem Bk.below_drewN (w:World) (n:Nat):Below w.heap.size w (w.drewN n):=⟨rfl,rfl,rfl,Nat.le_refl _,fun _ _=>rfl⟩
def adB (r:Option (Int×Nat)) (q:Nat) (w:World) (e:Ending) (w':World):Prop:=
 (match r with
 |some (r,p)=>e=.returned (.tuple #[.int .i32 r,.int .i64 p,.int .i64 0])
 |none=>e=.returned (.tuple #[.int .i32 0,.int .i64 q,.int .i64 5]))∧Below w.heap.size w w'
set_option maxRecDepth 100000 in
theorem Tf (s:ByteArray) (q:Nat) (w:World) (hs:s.size<=1000000) (hq:q<s.size) (h92:bt s q=92):
  Calls Tryz.prog 138 #[.string s,.int .i64 q] w (adB (Bk.Ti s q) q w):=by
 have hb:=get_bt s;have hbl:∀(n:Nat) (h:n<(⟨#[48,97,98,116,110,118,102,114,101,9,32,34,47,92,78,95,76,80]⟩:ByteArray).size),(((⟨#[48,97,98,116,110,118,102,114,101,9,32,34,47,92,78,95,76,80]⟩:ByteArray)[n].toNat:Nat):Int)=bt Bk.LET n:=get_bt Bk.LET;have at7:(bt s q !=92)=false:=by simp [h92]
 obtain ⟨R,hR⟩:∃R,R=Bk.Ti s q:=⟨_,rfl⟩;rw [←hR];by_cases hz:s.size<q+2
 ·have HE:Hid (R=none):=Lib.hid (by rw [hR,Bk.Ti,if_pos hz]);clear hR
  go_enter Tryz.func138,Tryz.ntmps138
  go_wp2_with fail
  go_ret3
  rw [HE.out];exact ⟨rfl,Below.refl _ _⟩
 ·obtain ⟨c,hc⟩:∃c,c=bt s (q+1):=⟨_,rfl⟩;have HR:Hid (R=match Bk.IP c 18 0 with
   |some i=>some (Bk.OG i,q+2)
   |none=>
    if Bk.yw c=0∨s.size<q+2+Bk.yw c then none
    else match Bk.sD s q (Bk.yw c) 9 0 0 with
     |some r=>if Bk.gI r=true then some (r,q+2+Bk.yw c) else none
     |none=>none):=Lib.hid (by rw [hR,Bk.Ti,if_neg hz,hc])
  have HC:=Lib.hid hc;have hls:Bk.LET.size=18:=rfl;clear hR hc;obtain ⟨N0,hN0⟩:∃N0,N0=Bk.IP c 18 0:=⟨_,rfl⟩;rw [←hN0] at HR;have HN0:=Lib.hid hN0;have d1:decide ((q:Int)<0)=false:=decide_eq_false oM;have d2:decide (s.size<=q)=false:=decide_eq_false oM;have d3:decide ((s.size:Int)-(q:Int)<2)=false:=decide_eq_false oM;clear hN0
  go_enter Tryz.func138,Tryz.ntmps138
  go_wp2_with fail
  go_loopg [7] 18 (fun g iv wr=>∃(k:Nat),g=18-k∧k<=18∧iv=.int .i64 k∧Hid (N0=Bk.IP c (18-k) k)∧Hid (Below w.heap.size w wr))
  case atStart=>exact ⟨0,rfl,oM,rfl,HN0,Lib.hid (Below.refl _ _)⟩
  case round=>
   obtain ⟨k,rfl,hk,rfl,HK,HW⟩:=hrel;by_cases Zm:k<18
   ·have arR:k<(⟨#[48,97,98,116,110,118,102,114,101,9,32,34,47,92,78,95,76,80]⟩:ByteArray).size:=Zm;obtain ⟨f,hf⟩:∃f,18-k=f+1:=⟨18-k-1,oM⟩;have hf2:18-(k+1)=f:=oM;by_cases heq:bt Bk.LET k=c
    ·have hcq:(bt Bk.LET k==bt s (q+1))=true:=by rw [←HC.out];simp [heq]
     have HE:Hid (R=some (Bk.OG k,q+2)):=Lib.hid (by rw [HR.out,HK.out,hf,Bk.IP,if_pos heq]);clear hf hf2 heq
     go_wp2_with fail
     go_quiet (fail)
     go_wp2_with (go_at_call 148;refine (XZ k _ Zm).mono ?_;rintro e w' ⟨rfl,rfl⟩)
     go_ret3
     rw [HE.out];exact ⟨rfl,HW.out.trans ((Bk.below_drewN _ _).mono HW.out.size)⟩
    ·have hcq:(bt Bk.LET k==bt s (q+1))=false:=by rw [←HC.out];simp [heq]
     have HK2:Hid (N0=Bk.IP c (18-(k+1)) (k+1)):=Lib.hid (by rw [HK.out,hf,Bk.IP,if_neg heq,hf2]);clear hf hf2 heq
     go_wp2_with fail
     go_quiet (fail)
     go_wp2_with fail
     go_roundg (18-(k+1))
     case measure=>omega
     case rel=>exact ⟨k+1,rfl,oM,by go_num,HK2,Lib.hid (HW.out.trans ((Bk.below_drewN _ _).mono HW.out.size))⟩
   ·have HNN:Hid (N0=none):=Lib.hid (by rw [HK.out,show 18-k=0 from by omega];rfl);have HR2:Hid (R=if Bk.yw c=0∨s.size<q+2+Bk.yw c then none
     else match Bk.sD s q (Bk.yw c) 9 0 0 with
      |some r=>if Bk.gI r=true then some (r,q+2+Bk.yw c) else none
      |none=>none):=Lib.hid (by rw [HR.out,HNN.out])
    have hway:(c=120∧Bk.yw c=2)∨(c=117∧Bk.yw c=4)∨(c=85∧Bk.yw c=8)∨((bt s (q+1)==120)=false∧(bt s (q+1)==117)=false∧(bt s (q+1)==85)=false∧Bk.yw c=0):=by
     rw [←HC.out];unfold Bk.yw;by_cases h1:c=120
     ·exact .inl ⟨h1,by rw [if_pos h1]⟩
     ·by_cases h2:c=117
      ·exact .inr (.inl ⟨h2,by rw [if_neg h1,if_pos h2]⟩)
      ·by_cases h3:c=85
       ·exact .inr (.inr (.inl ⟨h3,by rw [if_neg h1,if_neg h2,if_pos h3]⟩))
       ·exact .inr (.inr (.inr ⟨by simp [h1],by simp [h2],by simp [h3],by rw [if_neg h1,if_neg h2,if_neg h3]⟩))
    obtain ⟨M,hM⟩:∃M,Bk.yw c=M:=⟨_,rfl⟩;rw [hM] at HR2 hway;clear hM HNN HK HR;rcases hway with ⟨hc,rfl⟩|⟨hc,rfl⟩|⟨hc,rfl⟩|⟨q1,q2,q3,rfl⟩
    ·have hcq:bt s (q+1)=120:=HC.out.symm.trans hc;clear hc;by_cases hz2:s.size<q+2+2
     ·have HE:Hid (R=none):=Lib.hid (by rw [HR2.out,if_pos (.inr hz2)])
      go_wp2_with fail
      go_ret3
      rw [HE.out];exact ⟨rfl,HW.out⟩
     ·have HR3:=Lib.hid (HR2.out.trans (if_neg (by rintro (h|h);omega;exact hz2 h)));obtain ⟨X,hX⟩:∃X,X=Bk.sD s q 2 9 0 0:=⟨_,rfl⟩;rw [←hX] at HR3;have HX:=Lib.hid hX;clear hX HR2
      go_wp2_with fail
      go_loopg [9,10] 2 (fun g rv iv wx=>wr=wx∧∃(i:Nat) (r:Int) (f:Nat),g=2-i∧i<=2∧i+f=9∧0<=r∧r<=17825791∧rv=.int .i32 r∧iv=.int .i64 i∧Hid (X=Bk.sD s q 2 f i r))
      case atStart=>exact ⟨rfl,0,0,9,rfl,oM,rfl,oM,oM,rfl,rfl,HX⟩
      case round=>
       obtain ⟨rfl,i,r,f,rfl,hi,hif,hr0,hr1,rfl,rfl,HI⟩:=hrel;by_cases hlt:i<2
       ·obtain ⟨f,rfl⟩:∃g,f=g+1:=⟨f-1,oM⟩;have hb0:=bt_nonneg s (q+2+i);have hb1:=bt_le s (q+2+i);have hdr:=Bk.xU (bt s (q+2+i));obtain ⟨d,hd⟩:∃d,d=Bk.IY (bt s (q+2+i)):=⟨_,rfl⟩;rw [←hd] at hdr;have HD:=Lib.hid hd;by_cases hd0:d<0
        ·have HE:Hid (R=none):=Lib.hid (by rw [HR3.out,HI.out,Bk.sD,if_pos hlt,if_pos (.inl (by rw [←hd];exact hd0))]);clear hd
         go_wp2_with (go_at_call 107;refine (nH _ _ hb0 hb1).mono ?_;rintro e w' ⟨rfl,rfl⟩;rw [←HD.out])
         go_ret3
         rw [HE.out];exact ⟨rfl,HW.out⟩
        ·by_cases hrr:1114111<r
         ·have HE:Hid (R=none):=Lib.hid (by rw [HR3.out,HI.out,Bk.sD,if_pos hlt,if_pos (.inr hrr)]);clear hd
          go_wp2_with (go_at_call 107;refine (nH _ _ hb0 hb1).mono ?_;rintro e w' ⟨rfl,rfl⟩;rw [←HD.out])
          go_ret3
          rw [HE.out];exact ⟨rfl,HW.out⟩
         ·have HI2:Hid (X=Bk.sD s q 2 f (i+1) (r*16+d)):=Lib.hid (by rw [HI.out,Bk.sD,if_pos hlt,if_neg (by rw [←hd];omega),hd]);have hor:bits BinOp.or IntKind.i32 (r*16) d=r*16+d:=bits_join .i32 31 dE wraps_i32 4 (r*16) d oM (by show r*16 % 16=0;omega) (by show r*16<2147483648;omega) oM (by show d<16;omega) (by show d<2147483648;omega);clear hd
          go_wp2_with (go_at_call 107;refine (nH _ _ hb0 hb1).mono ?_;rintro e w' ⟨rfl,rfl⟩;rw [←HD.out])
          go_roundg (2-(i+1))
          case measure=>omega
          case rel=>exact ⟨rfl,i+1,r*16+d,f,rfl,oM,oM,oM,oM,by first|rfl|rw [hor],by go_num,HI2⟩
       ·have HXE:Hid (X=some r):=Lib.hid (by
         obtain ⟨f,rfl⟩:∃g,f=g+1:=⟨f-1,oM⟩;rw [HI.out,Bk.sD,if_neg hlt])
        cases hsc:Bk.gI r with
        |true=>
         have HE:Hid (R=some (r,q+2+2)):=Lib.hid (by rw [HR3.out,HXE.out];exact if_pos hsc);have HSC:=Lib.hid hsc;clear hsc
         go_wp2_with (go_at_call 149;refine (ku _ _).mono ?_;rintro e w' ⟨rfl,rfl⟩;rw [HSC.out])
         go_ret3
         rw [HE.out];exact ⟨rfl,HW.out⟩
        |false=>
         have HE:Hid (R=none):=Lib.hid (by rw [HR3.out,HXE.out];exact if_neg (by rw [hsc];decide));have HSC:=Lib.hid hsc;clear hsc
         go_wp2_with (go_at_call 149;refine (ku _ _).mono ?_;rintro e w' ⟨rfl,rfl⟩;rw [HSC.out])
         go_ret3
         rw [HE.out];exact ⟨rfl,HW.out⟩
    ·have hcq:bt s (q+1)=117:=HC.out.symm.trans hc;clear hc;by_cases hz2:s.size<q+2+4
     ·have HE:Hid (R=none):=Lib.hid (by rw [HR2.out,if_pos (.inr hz2)])
      go_wp2_with fail
      go_ret3
      rw [HE.out];exact ⟨rfl,HW.out⟩
     ·have HR3:=Lib.hid (HR2.out.trans (if_neg (by rintro (h|h);omega;exact hz2 h)));obtain ⟨X,hX⟩:∃X,X=Bk.sD s q 4 9 0 0:=⟨_,rfl⟩;rw [←hX] at HR3;have HX:=Lib.hid hX;clear hX HR2
      go_wp2_with fail
      go_loopg [9,10] 4 (fun g rv iv wx=>wr=wx∧∃(i:Nat) (r:Int) (f:Nat),g=4-i∧i<=4∧i+f=9∧0<=r∧r<=17825791∧rv=.int .i32 r∧iv=.int .i64 i∧Hid (X=Bk.sD s q 4 f i r))
      case atStart=>exact ⟨rfl,0,0,9,rfl,oM,rfl,oM,oM,rfl,rfl,HX⟩
      case round=>
       obtain ⟨rfl,i,r,f,rfl,hi,hif,hr0,hr1,rfl,rfl,HI⟩:=hrel;by_cases hlt:i<4
       ·obtain ⟨f,rfl⟩:∃g,f=g+1:=⟨f-1,oM⟩;have hb0:=bt_nonneg s (q+2+i);have hb1:=bt_le s (q+2+i);have hdr:=Bk.xU (bt s (q+2+i));obtain ⟨d,hd⟩:∃d,d=Bk.IY (bt s (q+2+i)):=⟨_,rfl⟩;rw [←hd] at hdr;have HD:=Lib.hid hd;by_cases hd0:d<0
        ·have HE:Hid (R=none):=Lib.hid (by rw [HR3.out,HI.out,Bk.sD,if_pos hlt,if_pos (.inl (by rw [←hd];exact hd0))]);clear hd
         go_wp2_with (go_at_call 107;refine (nH _ _ hb0 hb1).mono ?_;rintro e w' ⟨rfl,rfl⟩;rw [←HD.out])
         go_ret3
         rw [HE.out];exact ⟨rfl,HW.out⟩
        ·by_cases hrr:1114111<r
         ·have HE:Hid (R=none):=Lib.hid (by rw [HR3.out,HI.out,Bk.sD,if_pos hlt,if_pos (.inr hrr)]);clear hd
          go_wp2_with (go_at_call 107;refine (nH _ _ hb0 hb1).mono ?_;rintro e w' ⟨rfl,rfl⟩;rw [←HD.out])
          go_ret3
          rw [HE.out];exact ⟨rfl,HW.out⟩
         ·have HI2:Hid (X=Bk.sD s q 4 f (i+1) (r*16+d)):=Lib.hid (by rw [HI.out,Bk.sD,if_pos hlt,if_neg (by rw [←hd];omega),hd]);have hor:bits BinOp.or IntKind.i32 (r*16) d=r*16+d:=bits_join .i32 31 dE wraps_i32 4 (r*16) d oM (by show r*16 % 16=0;omega) (by show r*16<2147483648;omega) oM (by show d<16;omega) (by show d<2147483648;omega);clear hd
          go_wp2_with (go_at_call 107;refine (nH _ _ hb0 hb1).mono ?_;rintro e w' ⟨rfl,rfl⟩;rw [←HD.out])
          go_roundg (4-(i+1))
          case measure=>omega
          case rel=>exact ⟨rfl,i+1,r*16+d,f,rfl,oM,oM,oM,oM,by first|rfl|rw [hor],by go_num,HI2⟩
       ·have HXE:Hid (X=some r):=Lib.hid (by
         obtain ⟨f,rfl⟩:∃g,f=g+1:=⟨f-1,oM⟩;rw [HI.out,Bk.sD,if_neg hlt])
        cases hsc:Bk.gI r with
        |true=>
         have HE:Hid (R=some (r,q+2+4)):=Lib.hid (by rw [HR3.out,HXE.out];exact if_pos hsc);have HSC:=Lib.hid hsc;clear hsc
         go_wp2_with (go_at_call 149;refine (ku _ _).mono ?_;rintro e w' ⟨rfl,rfl⟩;rw [HSC.out])
         go_ret3
         rw [HE.out];exact ⟨rfl,HW.out⟩
        |false=>
         have HE:Hid (R=none):=Lib.hid (by rw [HR3.out,HXE.out];exact if_neg (by rw [hsc];decide));have HSC:=Lib.hid hsc;clear hsc
         go_wp2_with (go_at_call 149;refine (ku _ _).mono ?_;rintro e w' ⟨rfl,rfl⟩;rw [HSC.out])
         go_ret3
         rw [HE.out];exact ⟨rfl,HW.out⟩
    ·have hcq:bt s (q+1)=85:=HC.out.symm.trans hc;clear hc;by_cases hz2:s.size<q+2+8
     ·have HE:Hid (R=none):=Lib.hid (by rw [HR2.out,if_pos (.inr hz2)])
      go_wp2_with fail
      go_ret3
      rw [HE.out];exact ⟨rfl,HW.out⟩
     ·have HR3:=Lib.hid (HR2.out.trans (if_neg (by rintro (h|h);omega;exact hz2 h)));obtain ⟨X,hX⟩:∃X,X=Bk.sD s q 8 9 0 0:=⟨_,rfl⟩;rw [←hX] at HR3;have HX:=Lib.hid hX;clear hX HR2
      go_wp2_with fail
      go_loopg [9,10] 8 (fun g rv iv wx=>wr=wx∧∃(i:Nat) (r:Int) (f:Nat),g=8-i∧i<=8∧i+f=9∧0<=r∧r<=17825791∧rv=.int .i32 r∧iv=.int .i64 i∧Hid (X=Bk.sD s q 8 f i r))
      case atStart=>exact ⟨rfl,0,0,9,rfl,oM,rfl,oM,oM,rfl,rfl,HX⟩
      case round=>
       obtain ⟨rfl,i,r,f,rfl,hi,hif,hr0,hr1,rfl,rfl,HI⟩:=hrel;by_cases hlt:i<8
       ·obtain ⟨f,rfl⟩:∃g,f=g+1:=⟨f-1,oM⟩;have hb0:=bt_nonneg s (q+2+i);have hb1:=bt_le s (q+2+i);have hdr:=Bk.xU (bt s (q+2+i));obtain ⟨d,hd⟩:∃d,d=Bk.IY (bt s (q+2+i)):=⟨_,rfl⟩;rw [←hd] at hdr;have HD:=Lib.hid hd;by_cases hd0:d<0
        ·have HE:Hid (R=none):=Lib.hid (by rw [HR3.out,HI.out,Bk.sD,if_pos hlt,if_pos (.inl (by rw [←hd];exact hd0))]);clear hd
         go_wp2_with (go_at_call 107;refine (nH _ _ hb0 hb1).mono ?_;rintro e w' ⟨rfl,rfl⟩;rw [←HD.out])
         go_ret3
         rw [HE.out];exact ⟨rfl,HW.out⟩
        ·by_cases hrr:1114111<r
         ·have HE:Hid (R=none):=Lib.hid (by rw [HR3.out,HI.out,Bk.sD,if_pos hlt,if_pos (.inr hrr)]);clear hd
          go_wp2_with (go_at_call 107;refine (nH _ _ hb0 hb1).mono ?_;rintro e w' ⟨rfl,rfl⟩;rw [←HD.out])
          go_ret3
          rw [HE.out];exact ⟨rfl,HW.out⟩
         ·have HI2:Hid (X=Bk.sD s q 8 f (i+1) (r*16+d)):=Lib.hid (by rw [HI.out,Bk.sD,if_pos hlt,if_neg (by rw [←hd];omega),hd]);have hor:bits BinOp.or IntKind.i32 (r*16) d=r*16+d:=bits_join .i32 31 dE wraps_i32 4 (r*16) d oM (by show r*16 % 16=0;omega) (by show r*16<2147483648;omega) oM (by show d<16;omega) (by show d<2147483648;omega);clear hd
          go_wp2_with (go_at_call 107;refine (nH _ _ hb0 hb1).mono ?_;rintro e w' ⟨rfl,rfl⟩;rw [←HD.out])
          go_roundg (8-(i+1))
          case measure=>omega
          case rel=>exact ⟨rfl,i+1,r*16+d,f,rfl,oM,oM,oM,oM,by first|rfl|rw [hor],by go_num,HI2⟩
       ·have HXE:Hid (X=some r):=Lib.hid (by
         obtain ⟨f,rfl⟩:∃g,f=g+1:=⟨f-1,oM⟩;rw [HI.out,Bk.sD,if_neg hlt])
        cases hsc:Bk.gI r with
        |true=>
         have HE:Hid (R=some (r,q+2+8)):=Lib.hid (by rw [HR3.out,HXE.out];exact if_pos hsc);have HSC:=Lib.hid hsc;clear hsc
         go_wp2_with (go_at_call 149;refine (ku _ _).mono ?_;rintro e w' ⟨rfl,rfl⟩;rw [HSC.out])
         go_ret3
         rw [HE.out];exact ⟨rfl,HW.out⟩
        |false=>
         have HE:Hid (R=none):=Lib.hid (by rw [HR3.out,HXE.out];exact if_neg (by rw [hsc];decide));have HSC:=Lib.hid hsc;clear hsc
         go_wp2_with (go_at_call 149;refine (ku _ _).mono ?_;rintro e w' ⟨rfl,rfl⟩;rw [HSC.out])
         go_ret3
         rw [HE.out];exact ⟨rfl,HW.out⟩
    ·have HE:Hid (R=none):=Lib.hid (by rw [HR2.out,if_pos (.inl rfl)])
     go_wp2_with fail
     go_ret3
     rw [HE.out];exact ⟨rfl,HW.out⟩
section
variable [nM]
set_option maxRecDepth 100000
namespace V
open Ab
open Bk (Cm)
def anF:Gm:=⟨[[0,1,2],[0,1,2,14],[6],[0,1,2,7],[0,1,2,7,20],[6],[0,1,2,30],[6],[6]],[],false,[],[]⟩
def anE:Gm:=⟨[[0,1,2],[0,1,2,16],[6],[0,1,2,7],[0,1,2,7,28],[0,1,2,7,8],[0,1,2,7,8,51],[0,1,2,7,69],[0,1,2,7],[0,1,7,81],[0,1,7],[6]],[],false,[],[]⟩
def anD:Gm:=⟨[[0,1,2,3],[0,1,2,3,27],[8,9,10,11],[0,1,2,3,12],[0,2,3,12,13],[0,2,3,12,13,14],[0,2,3,12,13,14,16],[0,2,3,12,13,14,16,55],[0,2,3,12,13,14,17,18],[0,2,3,12,13,14,17,18,67],[0,2,3,12,13,14,16,17],[0,2,3,12,13,14,16,17],[0,2,3,12,13,14,17,18],[0,2,3,12,13,14,17,18,94],[0,2,3,12,13,14,16,17,18],[0,2,3,12,13,14,16,17,19],[0,2,3,12,13,14,16,17,19,20],[0,2,3,12,13,14,16,17,19,20,111],[0,2,3,13,16,17,19,20,21],[0,2,3,13,16,17,19,20,21,114],[0,2,3,13,16,17,19,20,21],[0,2,3,13,16,17,19,20,21],[0,2,3,13,16,20],[0,2,3,12,13,14,16,20],[0,2,3,12,13,14,16,22],[0,2,3,12,13,14,22,150],[8,9,10,11],[8,9,10,11]],[],false,[],[]⟩
def anH:Gm:=⟨[[0,1,2],[0,1,2,10,11,12],[0,2,10,11,12,13],[0,2,10,11,12,13,39],[0,2,10,11,13],[0,2,10,11,13,44],[0,2,10,11,13,15],[0,2,11,13,15,54],[6,7,8,9],[0,2,10,11,13,15],[0,2,10,11,14],[0,2,10,13,69],[6,7,8,9],[0,2,10,13,14],[0,2,10,11,14],[0,2,10,11,14,93],[6,7,8,9],[0,2,10,11,12,14],[0,2,10,11,12,14,17],[0,2,10,11,12,13,14],[0,2,10,11,12,13,108],[6,7,8,9]],[],false,[],[]⟩
def anG:Gm:=⟨[[0,1],[0,1,28],[4,5,6],[0,1,7],[4,5,6]],[],false,[],[]⟩
def c30:az:=fun args bx K=>match args,bx with
 |[.str s,.int .i64 a],[]=>s.size<=900000∧K (.int .i64 (Bk.fE s (Bk.aP s a))) []
 |_,_=>False
theorem YF:az.OK Tryz.prog 30 c30:=by
 refine jA (g:=Oa fun s a=>some (.int .i64 (Bk.fE s (Bk.aP s a)))) rfl fun args bx K0 h=>?_;unfold c30 at h;split at h
 ·rename_i s a;exact ⟨rfl,_,by show (if _ then _ else _)=_;rw [if_pos h.1],rfl,fun K hK=>hK.2⟩
 ·exact h.elim
def c88:az:=fun args bx K=>match args,bx with
 |[.str s,.int .i64 a],[]=>s.size<=900000∧((Bk.uH s (Bk.aP s a):Int)<=s.size->(Bk.bI s (Bk.aP s a)+Bk.uH s (Bk.aP s a):Int)<=Bk.oI s (Bk.aP s a)->K (.int .i64 (Bk.uH s (Bk.aP s a):Nat)) [])
 |_,_=>False
theorem abX:az.OK Tryz.prog 88 c88:=by
 refine jA (g:=Oa fun s a=>some (.int .i64 (Bk.uH s (Bk.aP s a):Nat))) rfl fun args bx K0 h=>?_;unfold c88 at h;split at h
 ·rename_i s a;have hin:Bk.bI s (Bk.aP s a)+Bk.uH s (Bk.aP s a)<=Bk.oI s (Bk.aP s a):=by have h1:=Bk.iF s (Bk.aP s a);have h2:=Bk.vS s (Bk.aP s a);have h3:Bk.uH s (Bk.aP s a)<=Bk.oI s (Bk.aP s a)-Bk.bI s (Bk.aP s a):=Bk.CV _ _ _;omega
  have h3:=Bk.xq (Bk.pW s a);exact ⟨rfl,_,by show (if _ then _ else _)=_;rw [if_pos h.1],rfl,fun K hK=>hK.2 oM oM⟩
 ·exact h.elim
def amS:az:=fun args bx K=>match args,bx with
 |[.int .i64 n],[]=>n<=100000000∧(∀t:ByteArray,t.size<=n.toNat->K (.str t) [])
 |_,_=>False
theorem UN:az.OK Tryz.prog 146 amS:=by
 refine jA (g:=fun xs=>match xs with
  |[.int .i64 n]=>if n<=100000000 then some (.str (Bk.Dq 10 n.toNat)) else none
  |_=>none) rfl fun args bx K0 h=>?_
 unfold amS at h;split at h
 ·exact ⟨rfl,_,by show (if _ then _ else _)=_;rw [if_pos h.1],rfl,fun K hK=>hK.2 _ (by rw [Bk.xO];omega)⟩
 ·exact h.elim
def amW:az:=fun args bx K=>match args,bx with
 |[.int .u8 c],[]=>K (.bool (Bk.SH c)) []
 |_,_=>False
theorem ajS:az.OK Tryz.prog 142 amW:=by
 intro args bx K0 h;unfold amW at h;split at h
 ·exact ⟨.bool (Bk.SH _),[],jv ⟨_,rfl,rfl,rfl⟩ rfl Xo (fun _ _=>Fa) fun w=>Yr _ w,rfl,rfl,fun K hK=>hK⟩
 ·exact h.elim
structure BG (s:ByteArray) (a:Int) (fl:Bool):Prop where
 e:Bk.mG s a=false
 h:bt s a.toNat≠35
 f:fl=true->Bk.wI (bt s a.toNat)=false
 c:bt s a.toNat=58->Bk.mG s (a+1)=false∧(fl=true->Bk.wI (bt s (a+1).toNat)=false)
def aeJ:az:=fun args bx K=>match args,bx with
 |[.str s,.int .i64 a,.bool fl],[]=>(s.size<=900000∧0<=a)∧((a<s.size∧BG s a fl)->K (.bool true) [])∧K (.bool false) []
 |_,_=>False
theorem agc {c:Int} (h:Bk.SH c=false):c≠35∧Bk.wI c=false∧c≠58:=by unfold Bk.SH at h;simp at h;obtain ⟨h1,h2⟩:=h;exact ⟨oM,h2,oM⟩
theorem acN {c:Int} (h:c=45∨c=63∨c=58):Bk.wI c=false:=by rcases h with rfl|rfl|rfl<;>decide
def alY:=fN 129 Tryz.f129 47 [.tmp 6]
theorem ai7.xt {p:Prop} (g:p:=by ((first|((with_reducible refine (?_:af _ _ _ _ _));first|exact af.aW kV kV wV wV fun K hK=>hK.2.2|exact af.aW kV kV wV wV fun K hK=>hK.2.1 ⟨oM,(by first|exact (have q:=agc aZ;⟨aZ,q.1,fun _=>q.2.1,fun e=>absurd e q.2.2⟩)|exact ⟨aZ,oM,fun _=>acN oM,fun _=>⟨aZ,by intro hf;first|(simpa using hb;done)|(simp_all;done)⟩⟩)⟩|(refine af.bool (fun hb=>?_) (fun hb=>?_)))|fail);(repeat' (first|exact dw|fail));first|done|fail)):p:=g
theorem YJ:az.OK Tryz.prog 129 aeJ:=by
 intro args bx K0 h;unfold aeJ at h;split at h
 ·rename_i s a fl;obtain ⟨⟨h0,h1⟩,-⟩:=h;refine alY.okW (base:=0) rfl wV wV ?_;have B:=V.base (ae.cons PX (ae.cons Sm (ae.cons ajS ae.nil)))
  conv=>whnf
  let zA:=anF
  open ai7 in exact dw
 ·exact h.elim
theorem Vk {s:ByteArray} {a:Int} (h:Bk.mG s a=false):bt s a.toNat≠10∧Bk.dB (bt s a.toNat)=false:=by unfold Bk.mG at h;simp only [Bool.or_eq_false_iff,decide_eq_false_iff_not] at h;exact ⟨fun e=>by simp_all,by simp_all⟩
def aeI:az:=fun args bx K=>match args,bx with
 |[.str s,.int .i64 a,.bool fl],[]=>(s.size<=900000∧0<=a∧a<=s.size)∧(∀p:Int,(a<=p∧p<=s.size)->(BG s a fl->a<s.size->a<p)->K (.int .i64 p) [])
 |_,_=>False
def P1L (s:ByteArray) (a:Int) (fl:Bool) (j:Nat) (τ:aF):Prop:=∃p:Int,(a<=p∧p<=s.size)∧j=((s.size:Int)-p).toNat∧τ=⟨[(7,.int .i64 p),(2,.bool fl),(1,.int .i64 a),(0,.str s)],[]⟩
def P2L (s:ByteArray) (a:Int) (fl:Bool) (j:Nat) (τ:aF):Prop:=∃p:Int,(a<=p∧p<=s.size)∧(BG s a fl->a<s.size->a<p)∧j=p.toNat∧τ=⟨[(7,.int .i64 p),(1,.int .i64 a),(0,.str s)],[]⟩
def alX:=fN 130 Tryz.f130 85 [.tmp 6]
theorem ai6.xt {p:Prop} (g:p:=by ((first|((with_reducible refine (?_:WP _ _ _ (.loop _) ⟨[(7,_),(2,_),_,_],_⟩ _));(apply WP.loop (P1L s a fl));(case h0=>exact ⟨_,⟨oM,oM⟩,rfl,rfl⟩);(case' h=>(rintro j τ ⟨p,⟨g1,g2⟩,rfl,rfl⟩)))|((with_reducible refine (?_:WP _ _ _ (.loop _) _ _));refine WP.pJ (Rx.prune [0,1,7]) ?_;(apply WP.loop (P2L s a fl));(case h0=>exact ⟨_,⟨oM,oM⟩,(by intro hb hs;apply Decidable.byContradiction;intro hc;have e:p=a:=oM;subst e;have q:=Vk hb.e;have q2:=hb.c;have q3:=hb.f;have q4:=hb.h;first|omega|(simp_all;done)|(simp_all;omega)),rfl,rfl⟩);(case' h=>(rintro j τ ⟨p,⟨g1,g2⟩,g3,rfl,rfl⟩)))|((with_reducible refine (?_:∃(j:Nat) (τ':aF),j<_∧Rx 0 _ τ'∧_));first|(refine ⟨_,_,?_,Rx.refl,p+1,⟨oM,oM⟩,rfl,rfl⟩;omega)|(refine ⟨_,_,?_,Rx.refl,p-1,⟨oM,oM⟩,(by intro hb hs;apply Decidable.byContradiction;intro hc;have q:=Vk hb.e;have q1:=g3 hb hs;have e:p-1=a:=oM;simp_all),rfl,rfl⟩;omega))|((with_reducible refine (?_:af _ _ _ _ _));first|exact af.aW kV kV wV wV fun K hK=>hK.2 _ ⟨oM,oM⟩ (by intro hb hs;omega)|exact af.aW kV kV wV wV fun K hK=>hK.2 _ ⟨oM,oM⟩ g3)|fail);(repeat' (first|exact dw|fail));first|done|fail)):p:=g
theorem YI:az.OK Tryz.prog 130 aeI:=by
 intro args bx K0 h;unfold aeI at h;split at h
 ·rename_i s a fl;obtain ⟨⟨h0,h1,h2⟩,-⟩:=h;refine alX.okW (base:=0) rfl wV wV ?_;have B:=V.base (ae.cons PX (ae.cons YD (ae.cons Sm ae.nil)))
  conv=>whnf
  let zA:=anE
  open ai6 in exact dw
 ·exact h.elim
def am5:az:=fun args bx K=>match args,bx with
 |[.str s,.int .i64 a,.bool fl],[]=>(s.size<=900000∧0<=a∧a<=s.size)∧(∀p:Int,(a<=p∧p<=s.size)->K (.int .i64 p) [])
 |_,_=>False
theorem ad4:az.OK Tryz.prog 130 am5:=by
 intro args bx K0 h;unfold am5 at h;split at h
 ·rename_i s a fl;obtain ⟨r,b,h1,h2,h3,h4⟩:=YI [.str s,.int .i64 a,.bool fl] [] K0 ⟨h.1,fun p hp _=>h.2 p hp⟩;exact ⟨r,b,h1,h2,h3,fun K hK=>h4 K ⟨hK.1,fun p hp _=>hK.2 p hp⟩⟩
 ·exact h.elim
theorem UO:az.OK Tryz.prog 129 am6:=by
 intro args bx K0 h;unfold am6 at h;split at h
 ·rename_i s a fl;obtain ⟨r,b,h1,h2,h3,h4⟩:=YJ [.str s,.int .i64 a,.bool fl] [] K0 ⟨h.1,fun hp=>h.2.1 hp.1,h.2.2⟩;exact ⟨r,b,h1,h2,h3,fun K hK=>h4 K ⟨hK.1,fun hp=>hK.2.1 hp.1,hK.2.2⟩⟩
 ·exact h.elim
def anm:az:=fun args bx K=>match args,bx with
 |[.int .u8 c],[]=>∀b:Bool,K (.bool b) []
 |_,_=>False
theorem akf:az.OK Tryz.prog 108 anm:=by
 intro args bx K0 h;unfold anm at h;split at h
 ·exact ⟨.bool (Bk.Ue _),[],jv ⟨_,rfl,rfl,rfl⟩ rfl Xo (fun _ _=>Fa) fun w=>J6 _ w,rfl,rfl,fun K hK=>hK _⟩
 ·exact h.elim
def c95:az:=fun args bx K=>match args,bx with
 |[.int .u8 c],[]=>∀b:Bool,K (.bool b) []
 |_,_=>False
theorem aje:az.OK Tryz.prog 95 c95:=by
 intro args bx K0 h;unfold c95 at h;split at h
 ·exact ⟨.bool (Bk.ae9 _),[],jv ⟨_,rfl,rfl,rfl⟩ rfl Xo (fun _ _=>Fa) fun w=>Yl _ w,rfl,rfl,fun K hK=>hK _⟩
 ·exact h.elim
def ano:az:=fun args bx K=>match args,bx with
 |[.int .u8 c],[]=>(0<=c∧c<=255)∧∀r:Int,(-1<=r∧r<=15)->K (.int .i32 r) []
 |_,_=>False
theorem YL:az.OK Tryz.prog 107 ano:=by
 intro args bx K0 h;unfold ano at h;split at h
 ·rename_i c;refine ⟨.int .i32 (Bk.IY c),[],jv ⟨_,rfl,rfl,rfl⟩ rfl Xo (fun _ _=>LG) fun w=>nH c w h.1.1 h.1.2,rfl,rfl,fun K hK=>hK.2 _ ?_⟩;exact Bk.xU c
 ·exact h.elim
theorem GI {s:ByteArray} (h:¬s={data:=#[]}):(0:Int)<s.size:=by
 rcases Nat.eq_zero_or_pos s.size with e|e
 ·exact absurd (by cases s;rename_i d;cases d;rename_i l;cases l with|nil=>rfl|cons x r=>simp [ByteArray.size,Array.size] at e) h
 ·omega
def c92:az:=fun args bx K=>match args,bx with
 |[.str s,.int .i64 a],[]=>(s.size<=900000∧0<=a∧a<s.size)∧∀n:Int,(0<=n∧a+n<=s.size)->K (.int .i64 n) []
 |_,_=>False
def HD (s:ByteArray) (a:Int) (j:Nat) (τ:aF):Prop:=∃n:Int,(1<=n∧a+n<=s.size)∧j=((s.size:Int)-n).toNat∧τ=⟨[(5,.int .i64 n),(1,.int .i64 a),(0,.str s)],[]⟩
def ap7:=fN 92 Tryz.f92 38 [.tmp 4]
theorem ai5.xt {p:Prop} (g:p:=by ((first|exact rC|exact uZ|fail);(repeat' (first|exact dw|fail));first|done|fail)):p:=g
theorem ajf:az.OK Tryz.prog 92 c92:=by
 intro args bx K0 h;unfold c92 at h;split at h
 ·rename_i s a;obtain ⟨⟨h0,h1,h2⟩,-⟩:=h;refine ap7.okW (base:=0) rfl wV wV ?_;have B:=V.base (ae.cons akf ae.nil)
  conv=>whnf
  repeat' (first
  |with_reducible refine WP.seq ?_
  |(with_reducible first|refine Go.mk ?_|refine WP.qy B (au 92) ?_|refine WP.draw B (au 92) ?_|refine WP.cond ?_|refine WP.exit ?_|refine WP.skip ?_|refine WP.ret ?_);conv=>whnf
  |with_reducible refine WP.block ?_
  |with_reducible assumption
  |with_reducible refine And.intro ?_ ?_
  |exact cL
  |(with_reducible intro h);first|(cases h;done)|(try simp only [lG,reduceCtorEq] at h);first|done|(exfalso;omega)|replace h:=h trivial aZ|replace h:=h aZ|skip
  |fail)
  refine WP.loop (HD s a) ⟨1,⟨oM,oM⟩,rfl,rfl⟩ ?_;rintro j τ ⟨n,⟨g1,g2⟩,rfl,rfl⟩;let zA:=(au 92)
  open ai5 in exact dw
 ·exact h.elim
def anc:az:=fun args bx K=>match args,bx with
 |[.str s,.int .i64 a],[]=>(s.size<=900000∧0<=a∧a<=s.size)∧∀n:Int,(0<=n∧a+n<=s.size)->K (.int .i64 n) []
 |_,_=>False
def NmL (s:ByteArray) (a:Int) (j:Nat) (τ:aF):Prop:=∃n:Int,(0<=n∧a+n<=s.size)∧j=((s.size:Int)-n).toNat∧τ=⟨[(5,.int .i64 n),(1,.int .i64 a),(0,.str s)],[]⟩
def al6:=fN 122 Tryz.f122 34 [.tmp 4]
theorem ai4.xt {p:Prop} (g:p:=by ((first|exact FC|exact rC|exact uZ|fail);(repeat' (first|exact dw|fail));first|done|fail)):p:=g
theorem ad7:az.OK Tryz.prog 122 anc:=by
 intro args bx K0 h;unfold anc at h;split at h
 ·rename_i s a;obtain ⟨⟨h0,h1,h2⟩,-⟩:=h;refine al6.okW (base:=0) rfl wV wV ?_;have B:=V.base (ae.cons PX (ae.cons Sm ae.nil))
  conv=>whnf
  let zA:=(au 122)
  open ai4 in exact dw
 ·exact h.elim
def am3:az:=fun args bx K=>match args,bx with
 |[.str s,.int .i64 a],[]=>(s.size<=900000∧0<=a)∧∀n:Int,(0<=n∧(0<n->a+n<=s.size))->K (.int .i64 n) []
 |_,_=>False
def alU:=fN 133 Tryz.f133 41 [.tmp 4]
theorem ai3.xt {p:Prop} (g:p:=by ((first|exact yT|exact yP|exact uZ|fail);(repeat' (first|exact dw|fail));first|done|fail)):p:=g
theorem ad3:az.OK Tryz.prog 133 am3:=by
 intro args bx K0 h;unfold am3 at h;split at h
 ·rename_i s a;obtain ⟨⟨h0,h1⟩,-⟩:=h;refine alU.okW (base:=0) rfl wV wV ?_;have B:=V.base (ae.cons aje (ae.cons YL ae.nil))
  conv=>whnf
  let zA:=(au 133)
  open ai3 in exact dw
 ·exact h.elim
def am2:az:=fun args bx K=>match args,bx with
 |[.str s,.int .i64 a],[]=>(s.size<=900000∧0<=a∧a<=s.size)∧∀n:Int,(0<=n∧a+n<=s.size)->K (.int .i64 n) []
 |_,_=>False
def alT:=fN 134 Tryz.f134 34 [.tmp 4]
theorem ai2.xt {p:Prop} (g:p:=by ((first|exact FC|exact FH|exact uZ|fail);(repeat' (first|exact dw|fail));first|done|fail)):p:=g
theorem aj0:az.OK Tryz.prog 134 am2:=by
 intro args bx K0 h;unfold am2 at h;split at h
 ·rename_i s a;obtain ⟨⟨h0,h1,h2⟩,-⟩:=h;refine alT.okW (base:=0) rfl wV wV ?_;have B:=V.base (ae.cons Sm (ae.cons ad3 ae.nil))
  conv=>whnf
  let zA:=(au 134)
  open ai2 in exact dw
 ·exact h.elim
def aeH (F:ByteArray->Int->Int):az:=fun args bx K=>match args,bx with
 |[.str s,.int .i64 a],[]=>(s.size<=900000∧0<=a)∧((0<=F s a∧(0<F s a->a+F s a<=s.size))->K (.int .i64 (F s a)) [])
 |_,_=>False
theorem XT:∃F:ByteArray->Int->Int,az.OK Tryz.prog 133 (aeH F):=by
 have hh:∀(s:ByteArray) (p:Int),∃q:Int,(s.size<=900000∧0<=p)->aV Tryz.prog 133 [.str s,.int .i64 p] [] (.int .i64 q) []∧(0<=q∧(0<q->p+q<=s.size)):=by
  intro s p;by_cases h:s.size<=900000∧0<=p
  ·obtain ⟨r,b,h1,-,-,h4⟩:=ad3 [.str s,.int .i64 p] [] (fun _ _=>True) ⟨h,fun _ _=>trivial⟩;obtain ⟨q,rfl,rfl,h5⟩:=h4 (fun v bx=>∃q:Int,v=.int .i64 q∧bx=[]∧(0<=q∧(0<q->p+q<=s.size))) ⟨h,fun q hq=>⟨q,rfl,rfl,hq⟩⟩;exact ⟨q,fun _=>⟨h1,h5⟩⟩
  ·exact ⟨0,fun h'=>absurd h' h⟩
 refine ⟨fun s p=>Classical.choose (hh s p),fun args bx K0 h=>?_⟩;unfold aeH at h;split at h
 ·rename_i s p;obtain ⟨h1,h2⟩:=Classical.choose_spec (hh s p) h.1;exact ⟨_,[],h1,rfl,rfl,fun K hK=>hK.2 h2⟩
 ·exact h.elim
def anb:az:=fun args bx K=>match args,bx with
 |[.str s,.int .i64 a],[]=>(s.size<=900000∧0<=a∧a<=s.size)∧∀n:Int,(0<=n∧a+n<=s.size)->(a<s.size->bt s a.toNat=33->1<=n)->K (.int .i64 n) []
 |_,_=>False
def SzL (s:ByteArray) (a:Int) (j:Nat) (τ:aF):Prop:=∃n:Int,(2<=n∧a+n<=s.size)∧j=((s.size:Int)-n).toNat∧τ=⟨[(5,.int .i64 n),(1,.int .i64 a),(0,.str s)],[]⟩
def al5:=fN 123 Tryz.f123 89 [.tmp 4]
theorem ai1.xt {p:Prop} (g:p:=by ((first|((with_reducible refine (?_:WP _ _ _ (.loop _) _ _));refine WP.pJ (Rx.prune [0,1,5]) ?_;(apply WP.loop (SzL s a));(case h0=>exact ⟨2,⟨oM,oM⟩,rfl,rfl⟩);(case' h=>(rintro j τ ⟨n,⟨g1,g2⟩,rfl,rfl⟩)))|exact FH|((with_reducible refine (?_:af _ _ _ _ _));first|exact af.aW kV kV wV wV fun K hK=>hK.2 _ ⟨oM,oM⟩ (by intros;omega))|fail);(repeat' (first|exact dw|fail));first|done|fail)):p:=g
theorem aj6:az.OK Tryz.prog 123 anb:=by
 obtain ⟨F,i133⟩:=XT;intro args bx K0 h;unfold anb at h;split at h
 ·rename_i s a;obtain ⟨⟨h0,h1,h2⟩,-⟩:=h;refine al5.okW (base:=0) rfl wV wV ?_;have B:=V.base (ae.cons i133 (ae.cons ajf (ae.cons aj0 ae.nil)))
  conv=>whnf
  let zA:=(au 123)
  open ai1 in exact dw
 ·exact h.elim
def al1:=fN 126 Tryz.f126 46 [.tmp 4,.tmp 5,.tmp 6]
theorem ai0.xt {p:Prop} (g:p:=by ((first|((with_reducible refine (?_:af _ _ _ _ _));first|exact af.aW kV kV wV wV fun K hK=>hK.2.1 _ _ ⟨oM,oM⟩|exact af.aW kV kV wV wV fun K hK=>hK.2.2 _ _ _ dE)|fail);(repeat' (first|exact dw|fail));first|done|fail)):p:=g
theorem YK:az.OK Tryz.prog 126 am8:=by
 intro args bx K0 h;unfold am8 at h;split at h
 ·rename_i s a;obtain ⟨⟨h0,h1,h2⟩,-⟩:=h;refine al1.okW (base:=0) rfl wV wV ?_;have B:=V.base (ae.cons ad7 ae.nil)
  conv=>whnf
  let zA:=anG
  open ai0 in exact dw
 ·exact h.elim
def PrL (s:ByteArray) (a:Int) (fl:Bool) (j:Nat) (τ:aF):Prop:=∃(an tg:ByteArray) (e p:Int),(a<=e∧e<=s.size)∧(e<=p∧p<=s.size)∧j=((s.size:Int)-p).toNat∧τ=⟨[(13,.int .i64 p),(12,.int .i64 e),(11,.str tg),(10,.str an),(2,.bool fl),(0,.str s)],[]⟩
def amd:=fN 115 Tryz.f115 112 [.tmp 6,.tmp 7,.tmp 8,.tmp 9]
theorem aiZ.xt {p:Prop} (g:p:=by ((first|((with_reducible refine (?_:WP _ _ _ (.loop _) _ _));refine WP.pJ (Rx.prune [0,2,10,11,12,13]) ?_;(apply WP.loop (PrL s a fl));(case h0=>exact ⟨_,_,_,_,⟨oM,oM⟩,⟨oM,oM⟩,rfl,rfl⟩);(case' h=>(rintro j τ ⟨u1,u2,e,p,⟨g1,g2⟩,⟨g3,g4⟩,rfl,rfl⟩)))|((with_reducible refine (?_:_->bt _ _=33->_));intro h5 h6;first|assumption|omega)|((with_reducible refine (?_:∃(j:Nat) (τ':aF),j<_∧Rx 0 _ τ'∧_));first|((refine ⟨_,_,?_,Rx.refl,_,_,_,_,⟨?_,?_⟩,⟨?_,?_⟩,rfl,rfl⟩)<;>omega)|((refine ⟨_,_,?_,Rx.prune [0,2,10,11,12,13],_,_,_,_,⟨?_,?_⟩,⟨?_,?_⟩,rfl,rfl⟩)<;>omega))|exact Fg|fail);(repeat' (first|exact dw|fail));first|done|fail)):p:=g
theorem UR:az.OK Tryz.prog 115 anh:=by
 intro args bx K0 h;unfold anh at h;split at h
 ·rename_i s a fl;obtain ⟨⟨h0,h1,h2⟩,-⟩:=h;refine amd.okW (base:=0) rfl wV wV ?_;have B:=V.base (ae.cons MM (ae.cons JH (ae.cons PX (ae.cons Sm (ae.cons ad7 (ae.cons aj6 ae.nil))))))
  conv=>whnf
  let zA:=anH
  open aiZ in exact dw
 ·exact h.elim
def bM (ts:List ByteArray):List AV:=ts.map AV.str
def pq:List ByteArray->Nat
 |[]=>0
 |t::l=>t.size+pq l
theorem dN:∀(ts:List ByteArray),mi (bM ts)=true
 |[]=>rfl
 |t::ts=>by have:=dN ts;rw [bM,List.map_cons,mi];rw [bM] at this;rw [this];rfl
theorem uw {ts:List ByteArray} {t:ByteArray}:bM ts++[.str t]=bM (ts++[t]):=by rw [bM,bM,List.map_append];rfl
theorem yN {ts:List ByteArray}:(bM ts).length=ts.length:=List.length_map _
theorem ru:∀a b,pq (a++b)=pq a+pq b
 |[],b=>by rw [List.nil_append,pq,Nat.zero_add]
 |t::a,b=>by rw [List.cons_append,pq,pq,ru a b,Nat.add_assoc]
theorem exT {ts:List ByteArray} {i j:Nat} {Q:AV->List AV->Prop} (hj:j=i) (hi:i<ts.length) (h:∀t r,pq (ts.take (i+1))=pq (ts.take i)+t.size->pq (ts.take (i+1))<=pq ts->Q (.str t) r):∃v r,List.drop (j*1) (bM ts)=v::r∧Q v r:=by
 subst hj;have h1:ts.take (j+1)=ts.take j++[ts[j]]:=by rw [List.take_append_getElem]
 have h2:pq (ts.take (j+1))=pq (ts.take j)+ts[j].size:=by rw [h1,ru];rfl
 have h3:pq (ts.take (j+1))<=pq ts:=by have:=congrArg pq (List.take_append_drop (j+1) ts);rw [ru] at this;omega
 refine ⟨.str ts[j],(bM ts).drop (j+1),?_,h _ _ h2 h3⟩;rw [Nat.mul_one,List.drop_eq_getElem_cons (by rw [yN];exact hi)];congr 1;exact List.getElem_map _
def amR:az:=fun args bx K=>match args,bx with
 |[.sl n l],[]=>∃ts:List ByteArray,(n=ts.length∧l=bM ts)∧pq ts+2*ts.length<=90000000∧∀t:ByteArray,K (.str t) []
 |_,_=>False
def FfL (ts:List ByteArray) (j:Nat) (τ:aF):Prop:=∃(i b:Int) (t:ByteArray),(0<=i∧i<=ts.length)∧0<=b∧(t.size+b<=pq (ts.take i.toNat)+2*i)∧j=((ts.length:Int)-i).toNat∧τ=⟨[(5,.int .i64 i),(4,.int .i64 b),(3,.str t),(0,.sl ts.length (bM ts))],[]⟩
def alL:=fN 147 Tryz.f147 45 [.tmp 2]
theorem afB.xt {p:Prop} (g:p:=by ((first|exact lZ|exact yQ|((with_reducible refine (?_:∃(v:AV) (r:List AV),_=v::r∧_));refine exT rfl oM ?_;intro t1 r1 f1 f2)|((with_reducible refine (?_:WP _ _ _ (.loop _) _ _));(apply WP.loop (FfL ts));(case h0=>exact ⟨0,0,_,⟨oM,oM⟩,oM,by (have e0:({data:=#[]}:ByteArray).size=0:=rfl);simp [e0],rfl,rfl⟩);(case' h=>(rintro j τ ⟨i,b,t,⟨p1,p2⟩,p3,p4,rfl,rfl⟩)))|((with_reducible refine (?_:∃(j:Nat) (τ':aF),j<_∧Rx 0 _ τ'∧_));first|(have e0:Int.toNat 0=i.toNat:=oM;rw [e0] at f1 f2;refine ⟨_,_,?_,Rx.prune [0,3,4,5],i+1,_,_,⟨oM,oM⟩,?_,?_,rfl,rfl⟩<;>((try rw [show (i+1).toNat=i.toNat+1 by omega]);(try simp only [Bk.aT] at*);omega))|(refine ⟨_,_,?_,Rx.prune [0,3,4,5],i+1,_,_,⟨oM,oM⟩,?_,?_,rfl,rfl⟩<;>((try rw [show (i+1).toNat=i.toNat+1 by omega]);(try simp only [Bk.aT] at*);omega)))|((with_reducible refine (?_:af _ _ _ _ _));first|exact af.aW kV kV wV wV fun K hK=>(hK.elim fun L h=>h.2.2 _))|fail);(repeat' (first|exact dw|fail));first|done|fail)):p:=g
theorem ajO:az.OK Tryz.prog 147 amR:=by
 intro args bx K0 h;unfold amR at h;split at h
 ·obtain ⟨ts,⟨rfl,rfl⟩,h1,-⟩:=h;refine alL.okW (base:=0) rfl (by simp [iE,wv,dN]) rfl ?_;have B:=V.base (ae.cons UN ae.nil);have e32:({data:=#[32]}:ByteArray).size=1:=rfl
  conv=>whnf
  let zA:=(au 147)
  open afB in exact dw
 ·exact h.elim
theorem aaF {k j:Nat} {τ τ':aF} {I:Nat->aF->Prop} (hi:I j τ') (hr:Rx 0 τ τ') (hj:j<k):∃j τ',j<k∧Rx 0 τ τ'∧I j τ':=⟨j,τ',hj,hr,hi⟩
def ReL (s:ByteArray) (a n:Int) (fl:Bool) (j:Nat) (τ:aF):Prop:=∃(ts:List ByteArray) (e:Int) (o:Bool),(a<e∧e<=s.size)∧((pq ts:Int)+ts.length<=2*e)∧j=((s.size:Int)-e).toNat∧τ=⟨[(14,.bool o),(13,.row 9 1 ts.length (bM ts)),(12,.int .i64 e),(3,.bool fl),(2,.int .i64 n),(0,.str s)],[]⟩
theorem ReL.mk {s:ByteArray} {a n e:Int} {fl o:Bool} {ts:List ByteArray} {N:Nat} {C:List AV} (h1:a<e∧e<=s.size) (h2:(pq ts:Int)+ts.length<=2*e) (hN:N=ts.length) (hC:C=bM ts):ReL s a n fl ((s.size:Int)-e).toNat ⟨[(14,.bool o),(13,.row 9 1 N C),(12,.int .i64 e),(3,.bool fl),(2,.int .i64 n),(0,.str s)],[]⟩:=by subst hN hC;exact ⟨ts,e,o,h1,h2,rfl,rfl⟩
def BlL (s:ByteArray) (n e:Int) (fl o:Bool) (ts:List ByteArray) (j:Nat) (τ:aF):Prop:=∃(b f:Int),(0<=b∧e+b+1<=f∧f<=s.size+1)∧j=((s.size:Int)+1-f).toNat∧τ=⟨[(18,.int .i64 f),(17,.int .i64 b),(14,.bool o),(13,.row 9 1 ts.length (bM ts)),(12,.int .i64 e),(3,.bool fl),(2,.int .i64 n),(0,.str s)],[]⟩
def ApL (s:ByteArray) (n b p q t:Int) (fl:Bool) (ts:List ByteArray) (j:Nat) (τ:aF):Prop:=∃(i:Int) (us:List ByteArray),(0<=i∧(i<=b∨i=0))∧(pq us=pq ts∧(us.length:Int)=ts.length+i)∧j=(b-i).toNat∧τ=⟨[(21,.int .i64 i),(20,.int .i64 q),(19,.int .i64 p),(17,.int .i64 b),(16,.int .i64 t),(13,.row 9 1 us.length (bM us)),(3,.bool fl),(2,.int .i64 n),(0,.str s)],[]⟩
theorem ApL.mk {s:ByteArray} {n b p q t i:Int} {fl:Bool} {ts us:List ByteArray} {N:Nat} {C:List AV} (h1:0<=i∧(i<=b∨i=0)) (h2:pq us=pq ts∧(us.length:Int)=ts.length+i) (hN:N=us.length) (hC:C=bM us):ApL s n b p q t fl ts (b-i).toNat ⟨[(21,.int .i64 i),(20,.int .i64 q),(19,.int .i64 p),(17,.int .i64 b),(16,.int .i64 t),(13,.row 9 1 N C),(3,.bool fl),(2,.int .i64 n),(0,.str s)],[]⟩:=by subst hN hC;exact ⟨i,us,h1,h2,rfl,rfl⟩
theorem szE:({data:=#[]}:ByteArray).size=0:=rfl
def alR:=fN 136 Tryz.f136 156 [.tmp 8,.tmp 9,.tmp 10,.tmp 11]
theorem afA.xt {p:Prop} (g:p:=by ((first|((with_reducible refine (?_:_∧BG _ _ _->_));rintro ⟨u1,u2⟩)|exact dQ|((with_reducible refine (?_:WP _ _ _ (.loop _) ⟨(14,_)::_,_⟩ _));(apply WP.loop (ReL s a n fl));(case h0=>exact ReL.mk (ts:=[_]) ⟨oM,oM⟩ (by (try simp only [lL,ru,pq,ByteArray.size_extract,ByteArray.size_empty,szE] at*);omega) rfl rfl);(case' h=>(rintro j τ ⟨ts,e,o,⟨g1,g2⟩,g3,rfl,rfl⟩)))|((with_reducible refine (?_:WP _ _ _ (.loop _) ⟨(18,_)::_,_⟩ _));(apply WP.loop (BlL s n e fl o ts));(case h0=>exact ⟨0,_,⟨oM,oM,oM⟩,rfl,rfl⟩);(case' h=>(rintro j τ ⟨b,f,⟨q1,q2,q3⟩,rfl,rfl⟩)))|((with_reducible refine (?_:WP _ _ _ (.loop _) ⟨(21,_)::_,_⟩ _));(apply WP.loop (ApL s n b _ _ _ fl ts));(case h0=>exact ⟨0,ts,⟨oM,oM⟩,⟨rfl,oM⟩,rfl,rfl⟩);(case' h=>(rintro j τ ⟨i,us,⟨w1,w2⟩,⟨w3,w4⟩,rfl,rfl⟩)))|((with_reducible refine (?_:∃(j:Nat) (τ':aF),j<_∧Rx 0 _ τ'∧_));first|(refine ⟨_,_,?_,Rx.refl,b+1,_,⟨oM,oM,oM⟩,rfl,rfl⟩;omega)|(refine aaF (ApL.mk (i:=i+1) (us:=us++[_]) ⟨oM,oM⟩ ⟨(by (try simp only [lL,ru,pq,ByteArray.size_extract,ByteArray.size_empty,szE] at*);omega),(by (try simp only [lL,ru,pq,ByteArray.size_extract,ByteArray.size_empty,szE] at*);omega)⟩ (by rw [List.length_append];rfl) uw) Rx.refl oM)|(refine aaF (ReL.mk (ts:=us++[_]) ⟨oM,oM⟩ (by (try simp only [lL,ru,pq,ByteArray.size_extract,ByteArray.size_empty,szE] at*);omega) (by rw [List.length_append];rfl) uw) Rx.refl oM)|(refine aaF (ReL.mk (ts:=us++[_]) ⟨oM,oM⟩ (by (try simp only [lL,ru,pq,ByteArray.size_extract,ByteArray.size_empty,szE] at*);omega) (by rw [List.length_append];rfl) uw) (Rx.prune [0,2,3,12,13,14]) oM))|((with_reducible refine (?_:∃ts:List ByteArray,(_∧_)∧_));refine ⟨ts,⟨rfl,rfl⟩,oM,?_⟩)|exact Fg|fail);(repeat' (first|exact dw|fail));first|done|fail)):p:=g
theorem ad2:az.OK Tryz.prog 136 am1:=by
 intro args bx K0 h;unfold am1 at h;split at h
 ·rename_i s a n fl;obtain ⟨⟨h0,h1,h2⟩,-⟩:=h;refine alR.okW (base:=0) rfl wV wV ?_;have B:=V.base (ae.cons YJ (ae.cons YI (ae.cons YF (ae.cons abX (ae.cons MM (ae.cons JH (ae.cons PX (ae.cons ajO ae.nil))))))))
  conv=>whnf
  let zA:=anD
  open afA in exact dw
 ·exact h.elim
end V
end
section
variable [nM]
namespace V
open Ab
open Bk (Cm)
def mQ (h:Bool) (tr:ByteArray):List Cm:=
 match h with
 |true=>[⟨tr,0⟩]
 |false=>[]
def Nd.ld:Nd->List Cm->Nd
 |.mk k y p b an tg tx kids _ ag h tr,l=> .mk k y p b an tg tx kids l ag h tr
def Nd.bare:Nd->Nd
 |.mk k y p b an tg tx kids _ ag _ _=> .mk k y p b an tg tx kids [] ag false ByteArray.empty
mutual
def aX:Nd->Nd×List Cm
 |.mk k y p b an tg tx kids lead ag h tr=>(.mk k y p b an tg tx (aU kids).1 lead [] false ByteArray.empty,(aU kids).2++ag++mQ h tr)
def aU:List Nd->List Nd×List Cm
 |[]=>([],[])
 |x::l=>((aX x).1.ld []::(aU l).1,x.lead++(aX x).2++(aU l).2)
end
def Uj (x:Nd):Bool:=decide (x.k=1∧x.y=1∧x.tx=ByteArray.empty)
def lV (x:Nd) (c:List Cm):Nd×List Cm:=
 match Uj x,x.lead with
 |true,m::l=>(x.bare,(m::l)++mQ x.h x.tr)
 |_,_=>(x,c)
def mD (b:Bool) (l:List Nd):List Nd×List Cm:=
 match b,l with
 |true,x::r=>(x.ld []::r,x.lead)
 |_,l=>(l,[])
def uT (blk:Bool) (k y p b:Int) (an tg tx:ByteArray) (kids:List Nd) (lead ag:List Cm) (h:Bool) (tr:ByteArray) (c:List Cm):Nd×List Cm:=
 if blk=true∧y=7 then (.mk k 6 p b an tg tx kids lead [] false ByteArray.empty,c++ag++mQ h tr)
 else if y=7 then (.mk k y p b an tg tx kids lead (c++ag) h tr,[])
 else (.mk k y p b an tg tx kids lead ag h tr,c)
mutual
def bJ (blk:Bool):List Cm->List Cm->Nd->Nd×List Cm
 |pre,c,.mk k y p b an tg tx kids lead ag h tr=>
  if k=3∨k=4 then
   match kids with
   |[]=>(.mk k y p b an tg tx [] (pre++lead++ag) [] h tr,c)
   |x::l=>
    let r:=if k=3 then iG blk c (x::l) else iU blk c (x::l);let q:=mD (decide (y=6)||(blk && decide (y=7))) r.1
    uT blk k y p b an tg tx q.1 (pre++lead++q.2) ag h tr r.2
  else (.mk k y p b an tg tx kids (pre++lead) ag h tr,c)
def iG (blk:Bool):List Cm->List Nd->List Nd×List Cm
 |c,[]=>([],c)
 |c,x::l=>((bJ blk c [] x).1::(iG blk (bJ blk c [] x).2 l).1,(iG blk (bJ blk c [] x).2 l).2)
def iU (blk:Bool):List Cm->List Nd->List Nd×List Cm
 |c,[]=>([],c)
 |c,[x]=>([x],c)
 |c,x::v::l=>
  let q:=bJ blk (aX x).2 [] v;let o:=lV q.1 q.2
  ((aX x).1.ld (c++x.lead)::o.1::(iU blk o.2 l).1,(iU blk o.2 l).2)
end
mutual
def lW:Nd->Nat
 |.mk _ _ _ _ _ _ _ kids lead ag h tr=>lead.length+fD kids+ag.length+(mQ h tr).length
def fD:List Nd->Nat
 |[]=>0
 |x::l=>lW x+fD l
end
mutual
def jT:Nd->Nat
 |.mk _ _ _ _ _ _ _ kids _ _ _ _=>1+eP kids
def eP:List Nd->Nat
 |[]=>0
 |x::l=>jT x+eP l
end
mutual
def Vj:Nd->Bool
 |.mk k y _ _ _ _ _ kids _ _ _ _=>((!decide (k=4)||decide (kids.length % 2=0)) && (!(decide (k=3)||decide (k=4))||(decide (y=6)||decide (y=7)))) && Oe kids
def Oe:List Nd->Bool
 |[]=>true
 |x::l=>Vj x && Oe l
end
mutual
def LU:Nd->Bool
 |.mk _ _ _ _ _ _ _ kids _ _ h tr=>(h||decide (tr=ByteArray.empty)) && Jv kids
def Jv:List Nd->Bool
 |[]=>true
 |x::l=>LU x && Jv l
end
theorem Tt (x:Nd) (l:List Cm):lW (x.ld l)+x.lead.length=lW x+l.length:=by cases x;simp only [Nd.ld,lW,Nd.lead];omega
mutual
theorem Lh:∀x:Nd,lW (aX x).1+(aX x).2.length=lW x∧(aX x).1.lead=x.lead
 |.mk k y p b an tg tx kids lead ag h tr=>by have:=oz kids;rw [aX];simp only [lL,lW,Nd.lead,mQ];exact ⟨oM,trivial⟩
theorem oz:∀l:List Nd,fD (aU l).1+(aU l).2.length=fD l
 |[]=>rfl
 |x::l=>by have h1:=Lh x;have h2:=oz l;have h3:=Tt (aX x).1 [];rw [aU];simp only [fD,List.length_append];rw [h1.2] at h3;simp only [List.length_nil] at h3;omega
end
theorem aad (x:Nd):lW x.bare+x.lead.length+(mQ x.h x.tr).length=lW x:=by cases x;simp only [Nd.bare,lW,Nd.lead,Nd.h,Nd.tr,mQ,List.length_nil];omega
theorem acX (x:Nd) (c:List Cm):lW (lV x c).1+(lV x c).2.length<=lW x+c.length:=by
 unfold lV;split
 ·rename_i m l h1 h2;have:=aad x;rw [h2] at this;simp only [List.length_append];omega
 ·exact Nat.le_refl _
theorem aac (b:Bool) (l:List Nd):fD (mD b l).1+(mD b l).2.length=fD l:=by
 unfold mD;split
 ·rename_i x r;have:=Tt x [];simp only [fD,List.length_nil] at*;omega
 ·rfl
theorem acY {blk:Bool} {k y p b:Int} {an tg tx:ByteArray} {kids:List Nd} {lead ag:List Cm} {h:Bool} {tr:ByteArray} {c:List Cm}:lW (uT blk k y p b an tg tx kids lead ag h tr c).1+(uT blk k y p b an tg tx kids lead ag h tr c).2.length=lead.length+fD kids+ag.length+(mQ h tr).length+c.length:=by
 unfold uT;split
 ·simp only [lL,lW,mQ];omega
 ·split
  ·simp only [lL,lW];omega
  ·simp only [lW]
mutual
theorem GZ (blk:Bool):∀(pre c:List Cm) (x:Nd),lW (bJ blk pre c x).1+(bJ blk pre c x).2.length<=pre.length+c.length+lW x
 |pre,c,.mk k y p b an tg tx [] lead ag h tr=>by
  rw [bJ];split
  ·simp only [lL,lW,fD];omega
  ·simp only [lW,List.length_append];omega
 |pre,c,.mk k y p b an tg tx (x::l) lead ag h tr=>by
  rw [bJ];split
  ·simp only [];rw [acY];have h1:=aac (decide (y=6)||(blk && decide (y=7))) (if k=3 then iG blk c (x::l) else iU blk c (x::l)).1;have h2:=G5 blk c (x::l);have h3:=G6 blk c (x::l);simp only [List.length_append,lW];split at h1<;>rename_i hk<;>simp only [hk,if_true,if_false]<;>omega
  ·simp only [lW,List.length_append];omega
theorem G5 (blk:Bool):∀(c:List Cm) (l:List Nd),fD (iG blk c l).1+(iG blk c l).2.length<=c.length+fD l
 |c,[]=>by rw [iG];simp only [fD];omega
 |c,x::l=>by have h1:=GZ blk c [] x;have h2:=G5 blk (bJ blk c [] x).2 l;rw [iG];simp only [fD,List.length_nil] at*;omega
theorem G6 (blk:Bool):∀(c:List Cm) (l:List Nd),fD (iU blk c l).1+(iU blk c l).2.length<=c.length+fD l
 |c,[]=>by rw [iU];simp only [fD];omega
 |c,[x]=>by rw [iU];simp only [fD];omega
 |c,x::v::l=>by have h0:=Lh x;have h1:=GZ blk (aX x).2 [] v;have h2:=acX (bJ blk (aX x).2 [] v).1 (bJ blk (aX x).2 [] v).2;have h3:=G6 blk (lV (bJ blk (aX x).2 [] v).1 (bJ blk (aX x).2 [] v).2).2 l;have h4:=Tt (aX x).1 (c++x.lead);rw [iU];rw [h0.2] at h4;simp only [lL,fD] at*;omega
end
end V
end
end Go.Proofs.YtlmjabnkjmfcmaaGreat
