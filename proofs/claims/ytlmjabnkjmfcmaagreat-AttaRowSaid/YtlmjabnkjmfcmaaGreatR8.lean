/- Parts of a proof; no condition. -/
import Derived.Test.YtlmjabnkjmfcmaaGreatR6
import Derived.Test.YtlmjabnkjmfcmaaGreatR7
namespace Go.Proofs.YtlmjabnkjmfcmaaGreat
open Go Go.RowKit Go.PlainAid
set_option linter.unusedVariables false
set_option linter.unusedSimpArgs false
set_option linter.unusedSectionVars false
set_option maxHeartbeats 20000000
set_option linter.defProp false
section
variable [nM]
namespace Ab
open Bk (Cm)
theorem Df {f:Nat} {args:List AV} {r:AV} (he:Ent Tryz.prog f) (hf:r.flat=true) (h:∀(lim:Nat->Nat) (w:World) (vs:List Value),AV.Rs lim [] w args vs->Calls Tryz.prog f vs.toArray w fun e w'=>∃v lim',e=.returned v∧Below w.heap.size w w'∧(∀b,b<w.heap.size->lim' b=lim b)∧((∀b,w.heap.size<=b->lim b=0)->∀b,w'.heap.size<=b->lim' b=0)∧AV.R lim' [] w' r v):aV Tryz.prog f args [] r []:=by refine ⟨he,Nat.le_refl _,fun lim bs w vs m hvl hm H=>?_⟩;have hbs:bs=[]:=List.eq_nil_of_length_eq_zero (by rw [H.len];rfl);subst hbs;refine (h lim w vs (QS hvl H)).mono ?_;rintro e w' ⟨v,lim',rfl,hb,h1,h2,h3⟩;refine ⟨v,lim',[],rfl,aB.res (h2 H.top) h3 (by rw [AV.top,hf];simp) (fun g hh=>by rw [nJ hf] at hh;cases hh),⟨⟨hb.os,hb.tape,hb.output,hb.size,fun k hk=>absurd hk (Nat.not_lt_zero _)⟩,fun b hbl _=>⟨hb.block b hbl,h1 b hbl⟩,fun b hbl=>Nat.le_of_eq (h1 b hbl).symm,fun b j hbl _=>World.cell?_of_block (hb.block b hbl),fun b cur e p hh=>⟨cur,(hb.block b (dO hh)).trans hh,rfl⟩⟩,fun i hi=>by cases hi⟩
theorem C9 {f:Nat} {args:List AV} {r:AV} {vs:List Value} {u:Value} (he:Ent Tryz.prog f) (hf:r.flat=true) (ha:∀(lim:Nat->Nat) (w:World) (vs':List Value),AV.Rs lim [] w args vs'->vs'=vs) (hr:∀(lim:Nat->Nat) (w:World),AV.R lim [] w r u) (h:∀w,Calls Tryz.prog f vs.toArray w fun e w'=>e=.returned u∧Below w.heap.size w w'):aV Tryz.prog f args [] r []:=by refine Df he hf fun lim w vs' hR=>?_;rw [ha lim w vs' hR];refine (h w).mono ?_;rintro e w' ⟨rfl,hb⟩;exact ⟨u,lim,rfl,hb,fun _ _=>rfl,fun ht b hbb=>ht b (Nat.le_trans hb.size hbb),hr lim w'⟩
theorem jv {f:Nat} {args:List AV} {r:AV} {vs:List Value} {u:Value} (he:Ent Tryz.prog f) (hf:r.flat=true) (ha:∀(lim:Nat->Nat) (w:World) (vs':List Value),AV.Rs lim [] w args vs'->vs'=vs) (hr:∀(lim:Nat->Nat) (w:World),AV.R lim [] w r u) (h:∀w,Calls Tryz.prog f vs.toArray w fun e w'=>e=.returned u∧w=w'):aV Tryz.prog f args [] r []:=
 C9 he hf ha hr fun w=>(h w).mono fun e w' hh=>⟨hh.1,hh.2▸Below.refl _ _⟩
theorem Xo {c:Int}:∀(lim:Nat->Nat) (w:World) (vs':List Value),AV.Rs lim [] w [.int .u8 c] vs'->vs'=[.int .u8 c]:=by intro lim w vs' h;simp only [AV.Rs,AV.R] at h;obtain ⟨v,r,rfl,rfl,rfl⟩:=h;rfl
theorem a_s {s:ByteArray}:∀(lim:Nat->Nat) (w:World) (vs':List Value),AV.Rs lim [] w [.str s] vs'->vs'=[.string s]:=by intro lim w vs' h;simp only [AV.Rs,AV.R] at h;obtain ⟨v,r,rfl,⟨rfl,-⟩,rfl⟩:=h;rfl
theorem a_i {n:Int}:∀(lim:Nat->Nat) (w:World) (vs':List Value),AV.Rs lim [] w [.int .i64 n] vs'->vs'=[.int .i64 n]:=by intro lim w vs' h;simp only [AV.Rs,AV.R] at h;obtain ⟨v,r,rfl,rfl,rfl⟩:=h;rfl
theorem NT {s:ByteArray} {a:Int}:∀(lim:Nat->Nat) (w:World) (vs':List Value),AV.Rs lim [] w [.str s,.int .i64 a] vs'->vs'=[.string s,.int .i64 a]:=by intro lim w vs' h;simp only [AV.Rs,AV.R] at h;obtain ⟨v,r,rfl,⟨rfl,-⟩,v2,r2,rfl,rfl,rfl⟩:=h;rfl
theorem aeN {s:ByteArray} {a b:Int}:∀(lim:Nat->Nat) (w:World) (vs':List Value),AV.Rs lim [] w [.str s,.int .i64 a,.int .i64 b] vs'->vs'=[.string s,.int .i64 a,.int .i64 b]:=by intro lim w vs' h;simp only [AV.Rs,AV.R] at h;obtain ⟨v,r,rfl,⟨rfl,-⟩,v2,r2,rfl,rfl,v3,r3,rfl,rfl,rfl⟩:=h;rfl
theorem Yx {f:Int->AV} {args:List AV} {v:AV} (h:pI f args=some v):∃c,args=[.int .u8 c]∧v=f c:=by
 unfold pI at h;split at h
 ·cases h;exact ⟨_,rfl,rfl⟩
 ·cases h
theorem xJ {f:ByteArray->Int->Option AV} {args:List AV} {v:AV} (h:Oa f args=some v):∃s a,args=[.str s,.int .i64 a]∧s.size<=900000∧f s a=some v:=by
 unfold Oa at h;split at h
 ·split at h
  ·rename_i hs;exact ⟨_,_,rfl,hs,h⟩
  ·cases h
 ·cases h
theorem PU {f:ByteArray->Int->Int->Option AV} {args:List AV} {v:AV} (h:Wx f args=some v):∃s a b,args=[.str s,.int .i64 a,.int .i64 b]∧s.size<=900000∧f s a b=some v:=by
 unfold Wx at h;split at h
 ·split at h
  ·rename_i hs;exact ⟨_,_,_,rfl,hs,h⟩
  ·cases h
 ·cases h
theorem U8 {s:ByteArray} {a:Int} {f:Nat->AV} {v:AV} (h:inT s a f=some v):∃q:Nat,a=q∧q<=s.size∧v=f q:=by
 unfold inT at h;split at h
 ·rename_i hh;cases h;exact ⟨a.toNat,oM,oM,rfl⟩
 ·cases h
theorem Vs (s:ByteArray):(Bk.ET s).size<=s.size:=by unfold Bk.ET;rw [ByteArray.size_extract];omega
theorem acZ (s:ByteArray) (p:Nat):(Bk.xZ s p).t.size<=s.size:=by show (Bk.ET (s.extract (p+1) (Bk.oI s p))).size<=s.size;refine Nat.le_trans (Vs _) ?_;rw [ByteArray.size_extract];omega
theorem NK (s:ByteArray) (q:Nat) (n:Int) (wi:Bool):∀(f p:Nat) (met:Bool) (row:Nat) (out:List Cm) (same:Bool) (r:List Cm×Bool×Nat),(∀c ∈ out,c.t.size<=s.size)->Bk.kF s q n wi f p met row out same=some r->∀c ∈ r.1,c.t.size<=s.size
 |0,p,met,row,out,same,r,_,h=>by cases h
 |f+1,p,met,row,out,same,r,ho,h=>by
  have hn:∀c ∈ out++[Bk.xZ s p],c.t.size<=s.size:=by
   intro c hc;rcases List.mem_append.1 hc with h1|h1
   ·exact ho c h1
   ·rw [List.mem_singleton.1 h1];exact acZ s p
  unfold Bk.kF at h
  repeat' split at h
  all_goals first
   |(cases h;done)
   |(cases h;exact ho)
   |exact NK s q n wi f _ _ _ _ _ r ho h
   |exact NK s q n wi f _ _ _ _ _ r hn h
theorem VE {s:ByteArray} {q:Nat} {n:Int} {wi:Bool} {r:List Cm×Bool×Nat} (h:Bk.sK s q n wi=some r):∀c ∈ r.1,c.t.size<=s.size:=by unfold Bk.sK at h;exact NK s q n wi _ _ _ _ _ _ r (fun c hc=>by cases hc) h
theorem aaW {lim:Nat->Nat} {bs:List Nat} {w:World} {b:Nat}:∀{l:List Cm} {off:Nat},(∀c ∈ l,c.t.size<=900000)->VT w l b off->AV.Rm lim bs w b off (eU l)
 |[],off,_,_=>by rw [eU,AV.Rm];trivial
 |c::l,off,hc,h=>by obtain ⟨h1,h2,h3⟩:=h;rw [eU,AV.Rm,AV.Rm];exact ⟨⟨_,h1,by rw [AV.R];exact ⟨rfl,Nat.le_trans (hc c (List.mem_cons_self ..)) (Nat.le_trans dE nM.lo)⟩⟩,⟨_,h2,by rw [AV.R]⟩,aaW (fun d hd=>hc d (List.mem_cons_of_mem _ hd)) h3⟩
theorem ac0:∀(l:List Cm),(eU l).length=2*l.length
 |[]=>rfl
 |c::l=>by rw [eU,List.length_cons,List.length_cons,List.length_cons,ac0 l];omega
theorem QA:∀(l:List Cm),AV.aj (eU l)=true
 |[]=>rfl
 |c::l=>by rw [eU,AV.aj,AV.aj,QA l];rfl
theorem Jm {f:Nat} {args:List AV} {vs:List Value} {x:Option (List Cm×Bool×Nat)} (he:Ent Tryz.prog f) (ha:∀(lim:Nat->Nat) (w:World) (vs':List Value),AV.Rs lim [] w args vs'->vs'=vs) (hx:∀r,x=some r->∀c ∈ r.1,c.t.size<=900000) (h:∀w,Calls Tryz.prog f vs.toArray w (yg x w)):aV Tryz.prog f args [] (QG x) []:=by
 cases x with
 |none=>
  refine Df he rfl fun lim w vs' hR=>?_;rw [ha lim w vs' hR];refine (h w).mono ?_;rintro e w' ⟨⟨p,c,rfl,hc⟩,hb⟩;refine ⟨_,lim,rfl,hb,fun _ _=>rfl,fun ht b hbb=>ht b (Nat.le_trans hb.size hbb),?_⟩;show AV.R lim [] w' (.bW [.nil,.bool false,.ql .i64,.nz .i64]) _;rw [AV.R];refine ⟨_,rfl,?_⟩;simp only [AV.Rs,AV.R];exact ⟨_,_,rfl,rfl,_,_,rfl,rfl,_,_,rfl,⟨_,rfl⟩,_,_,rfl,⟨c,oM,rfl⟩,rfl⟩
 |some q=>
  obtain ⟨l,same,p⟩:=q;refine Df he (by show AV.aj _=true;simp [AV.aj,AV.flat,QA]) fun lim w vs' hR=>?_;rw [ha lim w vs' hR];refine (h w).mono ?_;rintro e w' ⟨⟨a,cp,rfl,hs,hcp⟩,hb⟩;have hval:∃lim':Nat->Nat,(∀b,b<w.heap.size->lim' b=lim b)∧((∀b,w.heap.size<=b->lim b=0)->∀b,w'.heap.size<=b->lim' b=0)∧AV.R lim' [] w' (.sl l.length (eU l)) (.slice a l.length cp):=by
   rcases hs with h0|⟨b,off,rfl,h1,h2,h3⟩
   ·have:l=[]:=List.eq_nil_of_length_eq_zero h0;subst this;exact ⟨lim,fun _ _=>rfl,fun ht b hbb=>ht b (Nat.le_trans hb.size hbb),by rw [AV.R];exact ⟨a,cp,rfl,hcp,.inl rfl⟩⟩
   ·refine ⟨fun k=>if k=b then off+(eU l).length else lim k,fun k hk=>if_neg oM,fun ht k hk=>?_,?_⟩
    ·show (if k=b then off+(eU l).length else lim k)=0;rw [if_neg oM];exact ht k (Nat.le_trans hb.size hk)
    ·rw [AV.R];exact ⟨_,cp,rfl,hcp,.inr ⟨b,off,rfl,h1,by simp,aaW (hx _ rfl) h3⟩⟩
  obtain ⟨lim',g1,g2,g3⟩:=hval;refine ⟨_,lim',rfl,hb,g1,g2,?_⟩;show AV.R lim' [] w' (.bW [.sl l.length (eU l),.bool same,.int .i64 p,.int .i64 0]) _;rw [AV.R];refine ⟨_,rfl,?_⟩;rw [AV.Rs];refine ⟨_,_,rfl,g3,?_⟩;simp only [AV.Rs,AV.R];exact ⟨_,_,rfl,rfl,_,_,rfl,rfl,_,_,rfl,rfl,rfl⟩
theorem LG {lim:Nat->Nat} {w:World} {k:IntKind} {n:Int}:AV.R lim [] w (.int k n) (.int k n):=by rw [AV.R]
theorem Fa {lim:Nat->Nat} {w:World} {b:Bool}:AV.R lim [] w (.bool b) (.bool b):=by rw [AV.R]
theorem aaQ {lim:Nat->Nat} {w:World} {s:ByteArray} (h:s.size<=1000000000):AV.R lim [] w (.str s) (.string s):=by rw [AV.R];exact ⟨rfl,Nat.le_trans h nM.lo⟩
set_option maxRecDepth 100000 in
theorem PH:∀p ∈ UE,∀(args:List AV) (v:AV),p.2 args=some v->aV Tryz.prog p.1 args [] v []:=by
 have hsz:∀{s:ByteArray},s.size<=900000->s.size<=4611686018427387903:=fun h=>Nat.le_trans h dE;have hsm:∀{s:ByteArray},s.size<=900000->s.size<=1000000:=fun h=>Nat.le_trans h dE;simp only [UE,List.forall_mem_cons];refine ⟨?_,?_,?_,?_,?_,?_,?_,?_,?_,?_,?_,?_,?_,fun p hp=>by cases hp⟩
 ·intro args v h;obtain ⟨s,a,rfl,hs,h⟩:=xJ h;obtain ⟨q,rfl,hq,rfl⟩:=U8 h;exact Jm ⟨_,rfl,rfl,rfl⟩ NT (fun r hr c hc=>Nat.le_trans (VE hr c hc) hs) fun w=>Ya s q w (hsm hs) hq
 ·intro args v h;obtain ⟨s,a,rfl,hs,h⟩:=xJ h;cases h;exact jv ⟨_,rfl,rfl,rfl⟩ rfl NT (fun _ _=>LG) fun w=>jO s a w (hsz hs)
 ·intro args v h;obtain ⟨s,a,rfl,hs,h⟩:=xJ h;cases h;exact jv ⟨_,rfl,rfl,rfl⟩ rfl NT (fun _ _=>LG) fun w=>Yv s a w (hsz hs)
 ·intro args v h;obtain ⟨s,a,rfl,hs,h⟩:=xJ h;cases h;exact jv ⟨_,rfl,rfl,rfl⟩ rfl NT (fun _ _=>by rw [AV.R];refine ⟨_,rfl,?_⟩;simp only [AV.Rs,AV.R];exact ⟨_,_,rfl,rfl,_,_,rfl,rfl,rfl⟩) fun w=>dC s a w (hsz hs)
 ·intro args v h;obtain ⟨s,a,b,rfl,hs,h⟩:=PU h;split at h
  ·rename_i hh;cases h;obtain ⟨q,rfl⟩:∃q:Nat,a=q:=⟨a.toNat,oM⟩;obtain ⟨r,rfl⟩:∃r:Nat,b=r:=⟨b.toNat,oM⟩;exact jv ⟨_,rfl,rfl,rfl⟩ rfl aeN (fun _ _=>LG) fun w=>ou s q r w (hsz hs) oM
  ·cases h
 ·intro args v h;split at h
  ·split at h
   ·rename_i s hs;cases h;exact jv ⟨_,rfl,rfl,rfl⟩ rfl a_s (fun _ _=>aaQ (Nat.le_trans (Vs s) (Nat.le_trans hs dE))) fun w=>D8 s w (Nat.le_trans hs dE)
   ·cases h
  ·cases h
 ·intro args v h;obtain ⟨s,a,rfl,hs,h⟩:=xJ h;cases h;exact jv ⟨_,rfl,rfl,rfl⟩ rfl NT (fun _ _=>Fa) fun w=>um s a w
 ·intro args v h;obtain ⟨c,rfl,rfl⟩:=Yx h;exact jv ⟨_,rfl,rfl,rfl⟩ rfl Xo (fun _ _=>Fa) fun w=>dU c w
 ·intro args v h;obtain ⟨s,a,rfl,hs,h⟩:=xJ h;cases h;exact jv ⟨_,rfl,rfl,rfl⟩ rfl NT (fun _ _=>LG) fun w=>L6 s a w (hsz hs)
 ·intro args v h;obtain ⟨s,a,rfl,hs,h⟩:=xJ h;cases h;exact jv ⟨_,rfl,rfl,rfl⟩ rfl NT (fun _ _=>LG) fun w=>uA s a w (hsz hs)
 ·intro args v h;obtain ⟨c,rfl,rfl⟩:=Yx h;exact jv ⟨_,rfl,rfl,rfl⟩ rfl Xo (fun _ _=>Fa) fun w=>Ws c w
 ·intro args v h;split at h
  ·split at h
   ·rename_i n hn;cases h;exact jv ⟨_,rfl,rfl,rfl⟩ rfl a_i (fun _ _=>aaQ (by rw [Bk.xO];omega)) fun w=>RN n w oM
   ·cases h
  ·cases h
 ·intro args v h;obtain ⟨s,a,n,rfl,hs,h⟩:=PU h;obtain ⟨q,rfl,hq,rfl⟩:=U8 h;exact Jm ⟨_,rfl,rfl,rfl⟩ aeN (fun r hr c hc=>Nat.le_trans (VE hr c hc) hs) fun w=>Rj s q n w (hsm hs) hq
end Ab
namespace Ab
def arh:List (Nat×List Nat):=[(141,[101,134]),(163,[15]),(41,[29])]
def aos:List (Nat×List (Nat×Nat×Nat)):=[(10,[(5,(10,11))]),(13,[(2,(10,12))])]
def arj:List (Nat×List Nat):=[(43,[35])]
def ap1:List Nat:=[141,13]
def au (f:Nat):Gm:=⟨akr f,(assoc arh f).getD [],mem f ap1,(assoc aos f).getD [],(assoc arj f).getD []⟩
def NF (e z:Nat):List AV->Option AV
 |[.nil]=>some .nil
 |[.sl n l]=>if l.length=n*z∧dZ l=true∧AV.aj l=true∧n<=1000000 then some (.row e z n l) else none
 |_=>none
def aer:List AV->Option AV
 |[.nil,.int .i64 n]=>if 0<=n∧n<=100000 then some (if n.toNat=0 then .nil else .row 56 2 0 []) else none
 |_=>none
def akp:List AV->Option AV
 |[.low .i64 d m,.int .i64 d']=>if d=d'∧1<=d∧d<=1000000000 then some (.int .i64 m) else none
 |_=>none
def O7:List (Nat×(List AV->Option AV)):=[(39,NF 56 2),(40,NF 9 1),(73,aer),(22,akp)]
def Yg (g:List AV->Option AV):BR->List AV->List (List AV)->Option (AV×List (List AV)):=fun _ args bx=>
 match bx with
 |[]=>match g args with
  |some v=>some (v,[])
  |none=>none
 |_=>none
def fnL:List Nat:=[109,115,122,123,126,127,129,130,133,134,136,147,92,95,107,108,8,10,11,13,23,37,41,42,43,49,68,69,70,71,72,96,97,98,99,100,101,110,111,112,113,114,116,117,118,119,120,121,124,125,128,131,132,141,142,150,151,152,153,154,155,156,157,158,160,161,162,163,164,165,166,167,168,169]
def ZJ (P:Program) (f:Nat):Option Func:=if mem f fnL=true then P.funcs[f]? else none
def KD (P:Program) (more:List (Nat×(List AV->Option AV))):adx:=
 ⟨jJ,ZJ P,au,ai8,fun f=>(assoc (more++O7) f).map Yg⟩
set_option maxRecDepth 100000 in
theorem afX (d m:Int) (h1:1<=d) (h2:d<=1000000000):aV Tryz.prog 22 [.low .i64 d m,.int .i64 d] [] (.int .i64 m) []:=by
 refine Df ⟨_,rfl,rfl,rfl⟩ rfl fun lim w vs hR=>?_;simp only [AV.Rs,AV.R] at hR;obtain ⟨v,r,rfl,⟨n,hn,rfl⟩,v2,r2,rfl,rfl,rfl⟩:=hR;refine (U1 n d w h1 h2).mono ?_;rintro e w' ⟨rfl,rfl⟩;refine ⟨_,lim,rfl,Below.refl _ _,fun _ _=>rfl,fun ht b hb=>ht b hb,?_⟩;have:(Bk.JI n d:Int)=m:=by rw [←hn];unfold Bk.JI AV.akq;rw [Int.toNat_of_nonneg (Int.emod_nonneg _ oM)];rfl
 rw [this,AV.R]
theorem Yf:∀p ∈ O7,∀(args:List AV) (v:AV),p.2 args=some v->aV Tryz.prog p.1 args [] v []:=by
 simp only [O7,List.forall_mem_cons];have hcl:∀{e z:Nat} {args:List AV} {v:AV},NF e z args=some v->(args=[.nil]∧v=.nil)∨∃n l,args=[.sl n l]∧v=.row e z n l∧l.length=n*z∧dZ l=true∧AV.aj l=true∧n<=1000000:=by
  intro e z args v h;unfold NF at h;split at h
  ·cases h;exact .inl ⟨rfl,rfl⟩
  ·split at h
   ·rename_i n l hc;cases h;exact .inr ⟨n,l,rfl,rfl,hc⟩
   ·cases h
  ·cases h
 refine ⟨?_,?_,?_,?_,fun p hp=>by cases hp⟩
 ·intro args v h;rcases hcl h with ⟨rfl,rfl⟩|⟨n,l,rfl,rfl,h1,h2,h3,h4⟩
  ·exact aaf
  ·exact Vz h1 h2 h3 (Nat.le_trans h4 dE)
 ·intro args v h;rcases hcl h with ⟨rfl,rfl⟩|⟨n,l,rfl,rfl,h1,h2,h3,h4⟩
  ·exact aae
  ·exact Vy h1 h2 h3 (Nat.le_trans h4 dE)
 ·intro args v h;unfold aer at h;split at h
  ·split at h
   ·rename_i n hc;cases h;obtain ⟨q,rfl⟩:∃q:Nat,n=q:=⟨n.toNat,oM⟩;exact ZB q oM
   ·cases h
  ·cases h
 ·intro args v h;unfold akp at h;split at h
  ·split at h
   ·rename_i d m d' hc;obtain ⟨rfl,h1,h2⟩:=hc;cases h;exact afX d m h1 h2
   ·cases h
  ·cases h
set_option maxRecDepth 1000000 in
theorem agC:(fnL.all fun f=>match Tryz.prog.funcs[f]? with
  |some fn=>sS fn
  |none=>false)=true:=dK
theorem aky (more:List (Nat×(List AV->Option AV))) (hm:∀p ∈ more,∀(args:List AV) (v:AV),p.2 args=some v->aV Tryz.prog p.1 args [] v []):KOK Tryz.prog (KD Tryz.prog more):=by
 refine ⟨tok,fun f fn h=>?_,fun f g args v h1 h2 _ _=>PH _ (mZ h1) args v h2,fun f g cal args bx r bx' h1 _ h2=>?_⟩
 ·have h':ZJ Tryz.prog f=some fn:=h;unfold ZJ at h';split at h'
  ·rename_i hf;refine ⟨h',?_⟩;have:=agC;rw [List.all_eq_true] at this;have h2:=this f (mem_iff.1 hf);rw [h'] at h2;exact h2
  ·cases h'
 ·have h':(assoc (more++O7) f).map Yg=some g:=h1;cases ha:assoc (more++O7) f with
  |none=>rw [ha] at h';cases h'
  |some g0=>
   rw [ha] at h';cases h';unfold Yg at h2;split at h2
   ·split at h2
    ·rename_i v hv;cases h2;have hmem:=mZ ha;rcases List.mem_append.1 hmem with hmem|hmem
     ·exact hm _ hmem args _ hv
     ·exact Yf _ hmem args _ hv
    ·cases h2
   ·cases h2
def isT:Option (AV×List (List AV))->Bool
 |some (.bool true,[])=>true
 |_=>false
theorem aga {x:Option (AV×List (List AV))} (h:isT x=true):x=some (.bool true,[]):=by
 unfold isT at h;split at h
 ·rfl
 ·cases h
theorem afp {more:List (Nat×(List AV->Option AV))} (hm:∀p ∈ more,∀(args:List AV) (v:AV),p.2 args=some v->aV Tryz.prog p.1 args [] v []) {n f:Nat} {args:List AV} {v:AV} (h:Gj (KD Tryz.prog more) n f args []=some (v,[])):aV Tryz.prog f args [] v []:=BM (aky more hm) n f args [] v [] h
end Ab
theorem lG:(∀(p:Prop) [Decidable p],(decide p=true)=p)∧(∀(p:Prop) [Decidable p],(decide p=false)=¬p)∧(∀b:Bool,((!b)=true)=(b=false))∧(∀b:Bool,((!b)=false)=(b=true))∧((true=false)=False)∧((false=true)=False)∧((!true)=false)∧((!false)=true)∧(∀(p:Prop) [Decidable p],(¬¬p)=p)∧(∀(α:Type) (a b:α),(a≠b)=¬(a=b))∧((¬True)=False)∧((¬False)=True):=by refine ⟨fun p _=>decide_eq_true_eq,fun p _=>propext decide_eq_false_iff_not,fun b=>by cases b<;>simp,fun b=>by cases b<;>simp,by simp,by simp,rfl,rfl,fun p _=>propext Decidable.not_not,fun _ _ _=>rfl,by simp,by simp⟩
theorem wV {p:Prop} (h:p:=by first|rfl|(simp [iE,aN,gG,wv,uX,CB,AV.one,AV.flat,cs,ay,ai,AV.aj,lD,qJ,rB,rF,Pv,fd,bV];first|done|fail)):p:=h
theorem iD {p:Prop} (h:p:=by first|rfl|(simp [iE,aN,gG,wv,uX,CB,AV.one,AV.flat,cs,ay,ai,AV.aj,lD,qJ,rB,rF,Pv,fd,bV,prC];first|done|fail)):p:=h
theorem dM {p:Prop} (h:p:=by first|rfl|(simp [iE,aN,gG,wv,uX,CB,AV.one,AV.flat,cs,ay,ai,AV.aj,lD,qJ,rB,rF,Pv,fd,bV,prC,rD,rG];first|done|fail)):p:=h
theorem QV {p:Prop} (h:p:=by first|rfl|(simp [iE,aN,gG,wv,uX,CB,AV.one,AV.flat,cs,ay,ai,AV.aj,lD,qJ,rB,rF,Pv,fd,bV,prC,rD,rG,dN];first|done|fail)):p:=h
theorem Oy {p:Prop} (h:p:=by first|rfl|(simp [iE,aN,gG,wv,uX,CB,AV.one,AV.flat,cs,ay,ai,AV.aj,lD,qJ,rB,rF,Pv,fd,bV,prC,rD,rG,dN,kX,KZ];first|done|fail)):p:=h
theorem o9 {p:Prop} (h:p:=by first|rfl|(simp [iE,aN,gG,wv,uX,CB,AV.one,AV.flat,cs,ay,ai,AV.aj,lD,qJ,rB,rF,Pv,fd,bV,prC,rD,rG,dN,Dz,mB];first|done|fail)):p:=h
theorem wV5 {p:Prop} (h:p:=by first|rfl|(simp [iE,aN,gG,wv,uX,CB,AV.one,AV.flat,cs,ay,ai,AV.aj,lD,qJ,rB,rF,Pv,fd,bV,prC,rD,rG,dN,kX,KZ,abo,bZ (qY _),dA (bZ (qY _))];first|done|fail)):p:=h
theorem kV {p:Prop} (h:p:=by (repeat' (first|exact Wk.refl _|exact Wk.aqU|exact qi.refl _|exact Bh.refl _|exact qi.nil|exact Bh.nil|exact Wk.nil|exact Wk.row|exact Wk.adQ|exact Wk.ql|exact Wk.nz (by first|omega|assumption)|exact Wk.bt (by simp only [decide_eq_true_eq];omega)|exact Wk.bf (by simp only [decide_eq_false_iff_not];omega)|apply Wk.agg|apply Wk.bW|exact Wk.wO|exact Wk.apf|exact Wk.akx|(apply Wk.isc;(repeat' (first|exact fP.mk _|exact fP.nil|exact fP.one|apply fP.app));first|done|fail)|(apply Wk.atV;(repeat' (first|exact fP.mk _|exact fP.nil|exact fP.one|apply fP.app));first|done|fail)|exact Wk.ieq oM|apply qi.cons|apply Bh.cons));first|done|fail):p:=h
theorem oW {p:Prop} (h:p:=by ((try simp only [lL,yL,BK,Ho,Nd.lead,Nd.ag,Nd.kids,iJ] at*);omega)):p:=h
theorem oA {p:Prop} (h:p:=by first|((try simp only [lL,yL,BK,Ho,Nd.lead,Nd.ag,Nd.kids,iJ] at*);omega)|(simp_all only [yL,BK,Ho,Nd.lead,Nd.ag,Nd.kids,List.length_append,List.length_nil,List.length_cons,iJ,true_implies,forall_const];omega)):p:=h
theorem WT {p:Prop} (h:p:=by first|assumption|exact Cb.plain|exact Cb.plain.XX|exact Cb.sq|exact Cb.dq|exact Cb.al):p:=h
theorem cL {p:Prop} (g:p:=by first|((with_reducible first|refine (?_:(_:Int)<=_)|refine (?_:(_:Int)<_)|refine (?_:(_:Nat)<=_)|refine (?_:(_:Nat)<_)|refine (?_:(_:Nat)=_));omega)|((with_reducible refine (?_:List.length _=_));(try simp only [lL,jM,eY]);first|done|omega)|((with_reducible refine (?_:mi _=true));(repeat' (first|exact ay _|exact ai _|exact jg _|assumption|apply iH|rfl));first|done|fail)|((with_reducible refine (?_:AV.y8 _=true));first|rfl|exact bn (ay _))|((with_reducible first|refine (?_:(_:Nat)<=_)|refine (?_:(_:Nat)<_)|refine (?_:(_:Int)<=_));exact oW)|exact V.TT.int _|exact V.TT.nz|exact NZ.int _|exact NZ.ql|exact NzA.int (by first|assumption|omega)|exact NzA.nz|((with_reducible first|refine (?_:(_:Int)=_)|refine (?_:(_:Int)≠_));omega)|((with_reducible refine (?_:LH _ _));first|(with_reducible exact LH.ne (by first|assumption|exact Ne.symm aZ)))|fail):p:=g
theorem dw {p:Prop} (g:p:=by ((repeat' (first|with_reducible refine WP.seq ?_|((with_reducible first|refine Go.mk ?_|refine WP.qy B zA ?_|refine WP.draw B zA ?_|refine WP.cond ?_|refine WP.exit ?_|refine WP.skip ?_|refine WP.ret ?_);conv=>whnf)|(with_reducible first|refine WP.block ?_|assumption)|exact xt|with_reducible refine And.intro ?_ ?_|exact cL|((with_reducible intro h);first|(cases h;done)|((try simp only [lG,reduceCtorEq] at h);first|done|(exfalso;omega)|replace h:=h trivial aZ|replace h:=h aZ|skip)|skip)|fail));first|done|fail)):p:=g
theorem rC {p:Prop} (g:p:=by (((with_reducible refine (?_:∃(j:Nat) (τ':aF),j<_∧Rx 0 _ τ'∧_));(refine ⟨_,_,?_,Rx.refl,n+1,⟨oM,oM⟩,rfl,rfl⟩);omega);(repeat' (first|exact dw|fail));first|done|fail)):p:=g
theorem uZ {p:Prop} (g:p:=by (((with_reducible refine (?_:af _ _ _ _ _));first|exact af.aW kV kV wV wV fun K hK=>hK.2 _ ⟨oM,oM⟩);(repeat' (first|exact dw|fail));first|done|fail)):p:=g
theorem FC {p:Prop} (g:p:=by (((with_reducible refine (?_:WP _ _ _ (.loop _) _ _));refine WP.pJ (Rx.prune [0,1,5]) ?_;(apply WP.loop (NmL s a));(case h0=>exact ⟨0,⟨oM,oM⟩,rfl,rfl⟩);(case' h=>(rintro j τ ⟨n,⟨g1,g2⟩,rfl,rfl⟩)));(repeat' (first|exact dw|fail));first|done|fail)):p:=g
theorem yT {p:Prop} (g:p:=by (((with_reducible refine (?_:(0:Int)<=bt _ _));exact bt_nonneg _ _);(repeat' (first|exact dw|fail));first|done|fail)):p:=g
theorem yP {p:Prop} (g:p:=by (((with_reducible refine (?_:bt _ _<=(255:Int)));exact bt_le _ _);(repeat' (first|exact dw|fail));first|done|fail)):p:=g
theorem FH {p:Prop} (g:p:=by (((with_reducible refine (?_:∃(j:Nat) (τ':aF),j<_∧Rx 0 _ τ'∧_));(refine ⟨_,_,?_,Rx.refl,_,⟨?_,?_⟩,rfl,rfl⟩)<;>omega);(repeat' (first|exact dw|fail));first|done|fail)):p:=g
theorem Fg {p:Prop} (g:p:=by (((with_reducible refine (?_:af _ _ _ _ _));first|exact af.aW kV kV wV wV fun K hK=>hK.2.1 _ _ _ ⟨oM,oM⟩|exact af.aW kV kV wV wV fun K hK=>hK.2.2 _ _ _ _ dE);(repeat' (first|exact dw|fail));first|done|fail)):p:=g
theorem lZ {p:Prop} (g:p:=by (((with_reducible refine (?_:(_:Nat)<_));(simp only [yN,List.length_drop];omega));(repeat' (first|exact dw|fail));first|done|fail)):p:=g
theorem yQ {p:Prop} (g:p:=by (((with_reducible refine Or.inl (?_:ByteArray.size _+ByteArray.size _<=_));(try simp only [Bk.aT] at*);omega);(repeat' (first|exact dw|fail));first|done|fail)):p:=g
theorem dQ {p:Prop} (g:p:=by (((with_reducible refine (?_:AV.y8 _=true));rfl);(repeat' (first|exact dw|fail));first|done|fail)):p:=g
theorem oJ {p:Prop} (g:p:=by ((with_reducible refine (?_:∃L:List Cm,fP _ _ L∧_));(apply Exists.intro;apply And.intro;focus (repeat' (first|exact fP.mk _|exact fP.nil|apply fP.app)));(repeat' (first|exact dw|fail));first|done|fail)):p:=g
theorem OT {p:Prop} (g:p:=by ((with_reducible refine (?_:∃L:List Cm,fP _ _ L∧_));(apply Exists.intro;apply And.intro;focus (repeat' (first|exact fP.mk _|exact fP.nil|exact fP.one|apply fP.app)));(repeat' (first|exact dw|fail));first|done|fail)):p:=g
theorem jS {p:Prop} (g:p:=by (((with_reducible refine (?_:Pn _));first|exact .inl rfl|exact .inr ⟨_,rfl⟩);(repeat' (first|exact dw|fail));first|done|fail)):p:=g
theorem ry {p:Prop} (g:p:=by (((with_reducible refine (?_:af _ _ _ _ _));first|exact af.aW kV kV dM dM fun K hK=>hK.2 _);(repeat' (first|exact dw|fail));first|done|fail)):p:=g
theorem Fj {p:Prop} (g:p:=by (((with_reducible refine (?_:WP _ _ _ (.loop _) ⟨(6,_)::_,_⟩ _));(first|apply WP.loop (J1L ts (.sl ts.length (bM ts)) fo)|apply WP.loop (J1L [] .nil fo));(case h0=>exact ⟨0,_,⟨oM,oM⟩,Nat.zero_le _,rfl,rfl⟩);(case' h=>(rintro j τ ⟨i,t,⟨p1,p2⟩,p3,rfl,rfl⟩;have mz:=adF p2)));(repeat' (first|exact dw|fail));first|done|fail)):p:=g
theorem Fq {p:Prop} (g:p:=by (((with_reducible refine (?_:WP _ _ _ (.loop _) ⟨(9,_)::_,_⟩ _));(first|apply WP.loop (J2L ts (.sl ts.length (bM ts)))|apply WP.loop (J2L [] .nil));(case h0=>exact ⟨0,-1,0,_,⟨oM,oM⟩,⟨oM,oM⟩,.inl oM,(by show ((0:Nat):Int)+0<=_;omega),rfl,rfl⟩);(case' h=>(rintro j τ ⟨i,l,b,t,⟨p1,p2⟩,⟨p3,p6⟩,p4,p5,rfl,rfl⟩;have mz:=adF p2)));(repeat' (first|exact dw|fail));first|done|fail)):p:=g
theorem Ff {p:Prop} (g:p:=by (((with_reducible refine (?_:∃(j:Nat) (τ':aF),j<_∧Rx 0 _ τ'∧_));first|(refine ⟨_,_,?_,Rx.prune [0,5,6],i+1,_,⟨oM,oM⟩,?_,rfl,rfl⟩<;>((try rw [show (i+1).toNat=i.toNat+1 by omega]);(try simp only [Bk.aT] at*);omega))|(refine ⟨_,_,?_,Rx.prune [0,5,7,8,9],i+1,_,_,_,⟨oM,oM⟩,⟨oM,oM⟩,?_,?_,rfl,rfl⟩<;>((try rw [show (i+1).toNat=i.toNat+1 by omega]);(try simp only [Bk.aT] at*);omega))|(have q1:=afC aZ;refine ⟨_,_,?_,Rx.prune [0,5,7,8,9],i+1,i,0,_,⟨oM,oM⟩,⟨oM,oM⟩,?_,?_,rfl,rfl⟩<;>((try rw [show (i+1).toNat=i.toNat+1 by omega]);(try simp only [Bk.aT] at*);omega)));(repeat' (first|exact dw|fail));first|done|fail)):p:=g
theorem FB {p:Prop} (g:p:=by (((with_reducible refine (?_:af _ _ _ _ _));first|exact af.aW kV kV dM dM fun K hK=>(hK.elim fun L h=>h.2.2.2 _ (by (try simp only [Bk.aT] at*);omega)));(repeat' (first|exact dw|fail));first|done|fail)):p:=g
theorem ve {p:Prop} (g:p:=by ((refine aiE ?_ rfl ?_;(focus omega);intro r);(repeat' (first|exact dw|fail));first|done|fail)):p:=g
theorem Fh {p:Prop} (g:p:=by (((with_reducible refine (?_:∃(j:Nat) (τ':aF),j<_∧Rx 0 _ τ'∧_));(refine ⟨_,_,?_,Rx.refl,i+1,⟨oM,oM⟩,rfl,rfl⟩);omega);(repeat' (first|exact dw|fail));first|done|fail)):p:=g
theorem fQ {p:Prop} (g:p:=by (((with_reducible refine (?_:(_:Nat)<_));(simp only [lL];omega));(repeat' (first|exact dw|fail));first|done|fail)):p:=g
theorem fU {p:Prop} (g:p:=by (((with_reducible refine (?_:∃ks:List Int,(_=_∧_=_)∧_));refine ⟨_,⟨rfl,rfl⟩,?_⟩);(repeat' (first|exact dw|fail));first|done|fail)):p:=g
theorem ik {p:Prop} (g:p:=by (((with_reducible refine (?_:∃ts:List ByteArray,Oi _ _ ts∧_));(apply Exists.intro;apply And.intro;focus (repeat' (first|exact Oi.nil|apply Oi.cons))));(repeat' (first|exact dw|fail));first|done|fail)):p:=g
theorem ig {p:Prop} (g:p:=by (((with_reducible refine (?_:jY _<=_));(try simp only [lL,jY,Es,Bk.aT,ByteArray.size_extract] at*);omega);(repeat' (first|exact dw|fail));first|done|fail)):p:=g
theorem rE {p:Prop} (g:p:=by (((with_reducible refine (?_:af _ _ _ _ _));first|exact af.aW kV kV o9 o9 fun K hK=>(exI hK).2 _ _ ⟨oM,oM,(by (try simp only [lL,jY,Es,Bk.aT,ByteArray.size_extract] at*);omega)⟩);(repeat' (first|exact dw|fail));first|done|fail)):p:=g
theorem iT {p:Prop} (g:p:=by (((with_reducible refine (?_:zo _ _));(conv=>whnf);exact ⟨rfl,rfl⟩);(repeat' (first|exact dw|fail));first|done|fail)):p:=g
theorem iO {p:Prop} (g:p:=by ((first|(refine Fe (b:=3) rfl ?_ ?_;(focus (simp only [lL];omega));intro t r ht)|(refine Fe (b:=8) rfl ?_ ?_;(focus (simp only [lL];omega));intro t r ht)|(refine Fe (b:=10) rfl ?_ ?_;(focus (simp only [lL];omega));intro t r ht));(repeat' (first|exact dw|fail));first|done|fail)):p:=g
theorem iM {p:Prop} (g:p:=by (((with_reducible refine Or.inl (?_:ByteArray.size _+ByteArray.size _<=_));(try simp only [lL,jY,Es,Bk.aT,ByteArray.size_extract] at*);omega);(repeat' (first|exact dw|fail));first|done|fail)):p:=g
theorem iR {p:Prop} (g:p:=by (((with_reducible refine (?_:(_:Int)<=_));rw [Int.tmod_eq_emod_of_nonneg oM];(try simp only [lL,Es]);omega);(repeat' (first|exact dw|fail));first|done|fail)):p:=g
theorem iQ {p:Prop} (g:p:=by (((with_reducible refine (?_:(_:Int)<=_));(try simp only [lL,jY,Es,Bk.aT,ByteArray.size_extract] at*);omega);(repeat' (first|exact dw|fail));first|done|fail)):p:=g
theorem iP {p:Prop} (g:p:=by (((with_reducible refine (?_:(_:Nat)<=_));(try simp only [lL,jY,Es,Bk.aT,ByteArray.size_extract] at*);omega);(repeat' (first|exact dw|fail));first|done|fail)):p:=g
theorem FD {p:Prop} (g:p:=by (((with_reducible refine (?_:af _ _ _ _ _));first|exact af.aW kV kV o9 o9 fun K hK=>(exI hK).2 _ _ _ ⟨oM,oM,(by (try simp only [lL,jY,Es,Bk.aT,ByteArray.size_extract] at*);omega),oM,oM⟩);(repeat' (first|exact dw|fail));first|done|fail)):p:=g
theorem Fp {p:Prop} (g:p:=by (((with_reducible refine (?_:af _ _ _ _ _));first|exact af.aW kV kV o9 o9 fun K hK=>hK.2 _ (by (try simp only [lL,jY,Es,Bk.aT,ByteArray.size_extract] at*);omega));(repeat' (first|exact dw|fail));first|done|fail)):p:=g
theorem FI {p:Prop} (g:p:=by (((with_reducible refine (?_:af _ _ _ _ _));first|exact af.aW kV kV o9 o9 fun K hK=>(exI hK).2 _ _ _ _ ⟨oM,oM,(by (try simp only [lL,jY,Es,Bk.aT,ByteArray.size_extract] at*);omega),oM,oM,oM,oM⟩);(repeat' (first|exact dw|fail));first|done|fail)):p:=g
theorem FK {p:Prop} (g:p:=by (((with_reducible intro h);exfalso;simp at h;first|done|fail);(repeat' (first|exact dw|fail));first|done|fail)):p:=g
theorem OQ {p:Prop} (g:p:=by (((with_reducible refine (?_:(_:Int)<_));(try simp only [lL] at*);omega);(repeat' (first|exact dw|fail));first|done|fail)):p:=g
theorem OU {p:Prop} (g:p:=by (((with_reducible refine (?_:(_:Nat)<_));(try simp only [lL,eY,jM] at*);omega);(repeat' (first|exact dw|fail));first|done|fail)):p:=g
theorem yS {p:Prop} (g:p:=by (((with_reducible refine (?_:∃x r,List.drop _ (Gs _)=x++r∧_));refine ⟨[cs c0],Gs post,(by rw [hk];exact Qy oM),rfl,?_⟩);(repeat' (first|exact dw|fail));first|done|fail)):p:=g
theorem yR {p:Prop} (g:p:=by (((with_reducible refine (?_:∃x r,List.drop _ (Gs _)=x::r∧_));refine ⟨cs c0,Gs post,(by rw [hk];exact Qy oM),?_⟩);(repeat' (first|exact dw|fail));first|done|fail)):p:=g
theorem yO {p:Prop} (g:p:=by (((with_reducible refine (?_:(_:Nat)<_));(simp only [acU,List.length_drop];omega));(repeat' (first|exact dw|fail));first|done|fail)):p:=g
theorem Fv {p:Prop} (g:p:=by (((with_reducible refine (?_:∃(j:Nat) (τ':aF),j<_∧Rx 0 _ τ'∧_));(refine ⟨post.length,_,?_,Rx.refl,a'++[c0],post,i'+1,_,_,by rw [hk];simp,by rw [hi,List.length_append];rfl,by rw [hn,zX,rY,rY];omega,by rw [hl,List.flatten_append,EW];simp,rfl,rfl⟩);(try simp only [List.length_cons]);omega);(repeat' (first|exact dw|fail));first|done|fail)):p:=g
theorem kR {p:Prop} (g:p:=by
 intro e he;simp only [E41,List.mem_cons,List.not_mem_nil,or_false] at he;rcases he with rfl|rfl|rfl|rfl|rfl|rfl|rfl|rfl<;>(intro h1 h2 h3;first|exact absurd rfl h1|exact absurd rfl h2|exact ⟨by simp only [E41,List.mem_cons,true_or,or_true],by dsimp only;rw [ah,if_neg dE]⟩)):p:=g
theorem jm {p:Prop} (g:p:=by
 intro e he;simp only [E41,List.mem_cons,List.not_mem_nil,or_false] at he;rcases he with rfl|rfl|rfl|rfl|rfl|rfl|rfl|rfl<;>(intro h1;first|(exfalso;revert h1;simp;done)|(dsimp only;rw [ah,if_pos rfl];done)|(dsimp only;rw [ah,if_pos rfl];rfl))):p:=g
theorem FP {p:Prop} (g:p:=by
 intro e he;simp only [E41,List.mem_cons,List.not_mem_nil,or_false] at he;rcases he with rfl|rfl|rfl|rfl|rfl|rfl|rfl|rfl<;>(intro h1 h2 h3;first|exact absurd rfl h1|exact absurd rfl h2|exact ⟨by simp only [E41,List.mem_cons,true_or,or_true],by dsimp only;rw [wG dE]⟩)):p:=g
theorem fZ {p:Prop} (g:p:=by
 intro e he;simp only [E13,List.mem_cons,List.not_mem_nil,or_false] at he;rcases he with rfl|rfl|rfl|rfl|rfl|rfl|rfl|rfl|rfl|rfl|rfl|rfl<;>(intro h1 h2 h3;first|exact absurd rfl h1|exact absurd rfl h2|exact absurd (g11 h3) hi|exact ⟨by simp only [E13,List.mem_cons,true_or,or_true],by dsimp only;first|(rw [ah,if_neg dE];done)|rfl⟩)):p:=g
theorem fV {p:Prop} (g:p:=by
 intro e he;simp only [E13,List.mem_cons,List.not_mem_nil,or_false] at he;rcases he with rfl|rfl|rfl|rfl|rfl|rfl|rfl|rfl|rfl|rfl|rfl|rfl<;>(intro h1;first|(exfalso;revert h1;simp;done)|(dsimp only;rw [ah,if_pos rfl];done)|(dsimp only;rw [ah,if_pos rfl];rfl))):p:=g
theorem FO {p:Prop} (g:p:=by
 refine (amu (D:=⟨head,jL,mark,.mk k' y' p' bb' an' X6 XV kids' F5 F9 h' V7,c'++yl⟩) (b9:=b9) ?_ (hk4.fr fun i hi=>(qA i (by have:=hI i hi;omega)).trans (hr4 i (fun e=>huI (e▸hi))))).2;show b9[1]?=some [cs head,.sl jL.length (bM jL),.bool mark,.int .i64 k',.int .i64 y',.int .i64 p',.int .i64 bb',.str an',.str X6,.str XV,_,cs F5,cs F9,.bool h',.str V7,cs (c'++yl)];rw [ak5];exact h9):p:=g
namespace V
open Ab
def Go (p:Prop):Prop:=p
theorem Go.mk {p:Prop} (h:p):Go p:=h
mutual
def wv:AV->Bool
 |.sl _ l=>mi l
 |.row _ _ _ l=>mi l
 |.el l=>mi l
 |.agg l=>uX l
 |.bW l=>CB l
 |.fn _ l=>CB l
 |_=>true
def mi:List AV->Bool
 |[]=>true
 |v::l=>v.pf && v.flat && v.one && wv v && mi l
def uX:List AV->Bool
 |[]=>true
 |v::l=>v.flat && v.one && wv v && uX l
def CB:List AV->Bool
 |[]=>true
 |v::l=>v.flat && wv v && CB l
end
def iE:List AV->Bool
 |[]=>true
 |v::l=>wv v && iE l
def gG:List AV->Bool
 |[]=>true
 |v::l=>v.one && wv v && gG l
theorem dP:∀{l:List AV},gG l=true↔∀v ∈ l,v.one=true∧wv v=true
 |[]=>by simp [gG]
 |v::l=>by simp [gG,dP (l:=l),and_assoc]
theorem nS:∀{l:List AV},mi l=true↔∀v ∈ l,v.pf=true∧v.flat=true∧v.one=true∧wv v=true
 |[]=>by simp [mi]
 |v::l=>by simp [mi,nS (l:=l),and_assoc]
theorem jD:∀{l:List AV},uX l=true↔∀v ∈ l,v.flat=true∧v.one=true∧wv v=true
 |[]=>by simp [uX]
 |v::l=>by simp [uX,jD (l:=l),and_assoc]
theorem Cj:∀{l:List AV},CB l=true↔∀v ∈ l,v.flat=true∧wv v=true
 |[]=>by simp [CB]
 |v::l=>by simp [CB,Cj (l:=l),and_assoc]
theorem jR:∀{l:List AV},iE l=true↔∀v ∈ l,wv v=true
 |[]=>by simp [iE]
 |v::l=>by simp [iE,jR (l:=l)]
theorem bn:∀{l:List AV},mi l=true->AV.y8 l=true
 |[],_=>rfl
 |v::l,h=>by rw [mi] at h;simp only [Bool.and_eq_true] at h;rw [AV.y8,h.1.1.1.1,bn h.2];rfl
theorem bK:∀{l:List AV},mi l=true->AV.aj l=true
 |[],_=>rfl
 |v::l,h=>by rw [mi] at h;simp only [Bool.and_eq_true] at h;rw [AV.aj,h.1.1.1.2,bK h.2];rfl
theorem PN:∀{l:List AV},mi l=true->dZ l=true
 |[],_=>rfl
 |v::l,h=>by rw [mi] at h;simp only [Bool.and_eq_true] at h;rw [dZ,h.1.1.2,PN h.2];rfl
theorem bZ {l:List AV} (h:mi l=true):uX l=true:=jD.2 fun v hv=>(nS.1 h v hv).2
theorem ui:∀{l:List AV},uX l=true->AV.aj l=true
 |[],_=>rfl
 |v::l,h=>by rw [uX] at h;simp only [Bool.and_eq_true] at h;rw [AV.aj,h.1.1.1,ui h.2];rfl
theorem lF:∀{l:List AV},CB l=true->AV.aj l=true
 |[],_=>rfl
 |v::l,h=>by rw [CB] at h;simp only [Bool.and_eq_true] at h;rw [AV.aj,h.1.1,lF h.2];rfl
theorem CE:∀{l:List AV},uX l=true->dZ l=true
 |[],_=>rfl
 |v::l,h=>by rw [uX] at h;simp only [Bool.and_eq_true] at h;rw [dZ,h.1.1.2,CE h.2];rfl
theorem Gw {l:List AV} (h:uX l=true):iE l=true:=jR.2 fun v hv=>(jD.1 h v hv).2.2
theorem tC {l:List AV} (h:CB l=true):iE l=true:=jR.2 fun v hv=>(Cj.1 h v hv).2
theorem Bq {a b:List AV} (ha:iE a=true) (hb:iE b=true):iE (a++b)=true:=jR.2 fun v hv=>(List.mem_append.1 hv).elim (jR.1 ha v) (jR.1 hb v)
theorem iH {a b:List AV} (ha:mi a=true) (hb:mi b=true):mi (a++b)=true:=nS.2 fun v hv=>(List.mem_append.1 hv).elim (nS.1 ha v) (nS.1 hb v)
theorem Hw {a b:List AV} (ha:uX a=true) (hb:uX b=true):uX (a++b)=true:=jD.2 fun v hv=>(List.mem_append.1 hv).elim (jD.1 ha v) (jD.1 hb v)
theorem Iy {l:List AV} (n:Nat) (h:mi l=true):mi (l.drop n)=true:=nS.2 fun v hv=>nS.1 h v (List.mem_of_mem_drop hv)
theorem PM {l:List AV} (n:Nat) (h:mi l=true):mi (l.take n)=true:=nS.2 fun v hv=>nS.1 h v (List.mem_of_mem_take hv)
theorem xg {l:List AV} (h:gG l=true):iE l=true:=jR.2 fun v hv=>(dP.1 h v hv).2
theorem dA {l:List AV} (h:uX l=true):gG l=true:=dP.2 fun v hv=>(jD.1 h v hv).2
theorem bT {a b:List AV} (ha:gG a=true) (hb:gG b=true):gG (a++b)=true:=dP.2 fun v hv=>(List.mem_append.1 hv).elim (dP.1 ha v) (dP.1 hb v)
theorem Ov {l:List AV} (n:Nat) (h:gG l=true):gG (l.drop n)=true:=dP.2 fun v hv=>dP.1 h v (List.mem_of_mem_drop hv)
theorem Ou {l:List AV} (n:Nat) (h:gG l=true):gG (l.take n)=true:=dP.2 fun v hv=>dP.1 h v (List.mem_of_mem_take hv)
theorem Gx {l v:List AV} {o:Nat} (h:gG l=true) (hv:gG v=true):gG (setAt l o v)=true:=by
 rw [dP] at h hv⊢;intro x hx;obtain ⟨j,hj⟩:=List.getElem?_of_mem hx;rw [dX] at hj;split at hj
 ·exact hv x (List.mem_of_getElem? hj)
 ·exact h x (List.mem_of_getElem? hj)
theorem yK {v:AV} (h:wv v=true):v.top=true:=by
 cases v with
 |row e z n l=>rfl
 |sl n l=>show (false||AV.aj l)=true;rw [bK h];rfl
 |el l=>show (false||AV.aj l)=true;rw [bK h];rfl
 |agg l=>show (false||AV.aj l)=true;rw [ui h];rfl
 |bW l=>show (false||AV.aj l)=true;rw [lF h];rfl
 |fn f l=>show (false||AV.aj l)=true;rw [lF h];rfl
 |_=>rfl
theorem oD {v:AV} (h:wv v=true):v.cO.flat=true:=by
 cases v with
 |row e z n l=>exact bK h
 |sl n l=>exact bK h
 |el l=>exact bK h
 |agg l=>exact ui h
 |bW l=>exact lF h
 |fn f l=>exact lF h
 |_=>rfl
theorem Vm (v:AV):v.cO.one=v.one:=by cases v<;>rfl
theorem ny {v:AV} (h:wv v=true):wv v.cO=true:=by cases v<;>exact h
theorem LQ {l:List AV} (h:gG l=true):uX (l.map AV.cO)=true:=jD.2 fun v hv=>by obtain ⟨u,hu,rfl⟩:=List.mem_map.1 hv;obtain ⟨h1,h2⟩:=dP.1 h u hu;exact ⟨oD h2,by rw [Vm];exact h1,ny h2⟩
theorem zW {v:AV} (h:wv v=true) (h1:dZ (cells v)=true):gG (cells v)=true:=by
 cases v with
 |agg l=>exact dA h
 |_=>show (_ && wv _ && gG [])=true;rw [h];rw [show cells _=[_] from rfl,dZ,dZ,Bool.and_true] at h1;rw [h1];rfl
mutual
def kQ:AV->List Nat
 |.ptr i _=>[i]
 |.dm i _ _ _=>[i]
 |.agg l|.bW l|.fn _ l=>dG l
 |_=>[]
def dG:List AV->List Nat
 |[]=>[]
 |x::l=>kQ x++dG l
end
theorem jc {l:List AV} (h:AV.y8 l=true):AV.aA l=[]:=AV.tV h
mutual
theorem xQ:∀{x:AV},wv x=true->AV.ids x=kQ x
 |.ptr ..,_=>rfl
 |.dm ..,_=>rfl
 |.bool _,_=>rfl
 |.int _ _,_=>rfl
 |.str _,_=>rfl
 |.nil,_=>rfl
 |.nz _,_=>rfl
 |.ql _,_=>rfl
 |.low _ _ _,_=>rfl
 |.bad,_=>rfl
 |.sl n l,h=>by rw [wv] at h;rw [AV.ids,jc (bn h)];rfl
 |.row e z n l,h=>by rw [wv] at h;rw [AV.ids,jc (bn h)];rfl
 |.el l,h=>by rw [wv] at h;rw [AV.ids,jc (bn h)];rfl
 |.agg l,h=>by rw [wv] at h;rw [AV.ids,kQ,mX (Gw h)]
 |.bW l,h=>by rw [wv] at h;rw [AV.ids,kQ,mX (tC h)]
 |.fn f l,h=>by rw [wv] at h;rw [AV.ids,kQ,mX (tC h)]
theorem mX:∀{l:List AV},iE l=true->AV.aA l=dG l
 |[],_=>rfl
 |x::l,h=>by rw [iE,Bool.and_eq_true] at h;rw [AV.aA,dG,xQ h.1,mX h.2]
end
mutual
def uk (f:Nat->Nat):AV->AV
 |.ptr i o=> .ptr (f i) o
 |.dm i e z n=> .dm (f i) e z n
 |.agg l=> .agg (gJ f l)
 |.bW l=> .bW (gJ f l)
 |.fn g l=> .fn g (gJ f l)
 |v=>v
def gJ (f:Nat->Nat):List AV->List AV
 |[]=>[]
 |x::l=>uk f x::gJ f l
end
mutual
theorem MB {f:Nat->Nat}:∀{x:AV},wv x=true->AV.bP f x=uk f x
 |.ptr ..,_=>rfl
 |.dm ..,_=>rfl
 |.bool _,_=>rfl
 |.int _ _,_=>rfl
 |.str _,_=>rfl
 |.nil,_=>rfl
 |.nz _,_=>rfl
 |.ql _,_=>rfl
 |.low _ _ _,_=>rfl
 |.bad,_=>rfl
 |.sl n l,h=>by rw [wv] at h;rw [AV.bP,AV.lQ (bn h)];rfl
 |.row e z n l,h=>by rw [wv] at h;rw [AV.bP,AV.lQ (bn h)];rfl
 |.el l,h=>by rw [wv] at h;rw [AV.bP,AV.lQ (bn h)];rfl
 |.agg l,h=>by rw [wv] at h;rw [AV.bP,uk,xH (Gw h)]
 |.bW l,h=>by rw [wv] at h;rw [AV.bP,uk,xH (tC h)]
 |.fn f l,h=>by rw [wv] at h;rw [AV.bP,uk,xH (tC h)]
theorem xH {f:Nat->Nat}:∀{l:List AV},iE l=true->AV.aG f l=gJ f l
 |[],_=>rfl
 |x::l,h=>by rw [iE,Bool.and_eq_true] at h;rw [AV.aG,gJ,MB h.1,xH h.2]
end
theorem UJ {f:Nat->Nat} (x:AV):(AV.bP f x).one=x.one:=by cases x<;>rfl
mutual
theorem Ep {f:Nat->Nat}:∀{x:AV},wv x=true->wv (AV.bP f x)=true
 |.ptr ..,_=>rfl
 |.dm ..,_=>rfl
 |.bool _,_=>rfl
 |.int _ _,_=>rfl
 |.str _,_=>rfl
 |.nil,_=>rfl
 |.nz _,_=>rfl
 |.ql _,_=>rfl
 |.low _ _ _,_=>rfl
 |.bad,_=>rfl
 |.sl n l,h=>by rw [wv] at h;rw [AV.bP,AV.lQ (bn h)];exact h
 |.row e z n l,h=>by rw [wv] at h;rw [AV.bP,AV.lQ (bn h)];exact h
 |.el l,h=>by rw [wv] at h;rw [AV.bP,AV.lQ (bn h)];exact h
 |.agg l,h=>by rw [wv] at h;rw [AV.bP,wv];exact Uf h
 |.bW l,h=>by rw [wv] at h;rw [AV.bP,wv];exact LK h
 |.fn f l,h=>by rw [wv] at h;rw [AV.bP,wv];exact LK h
theorem Uf {f:Nat->Nat}:∀{l:List AV},uX l=true->uX (AV.aG f l)=true
 |[],_=>rfl
 |x::l,h=>by rw [uX] at h;simp only [Bool.and_eq_true] at h;rw [AV.aG,uX,AV.DZ,UJ,h.1.1.1,h.1.1.2,Ep h.1.2,Uf h.2];rfl
theorem LK {f:Nat->Nat}:∀{l:List AV},CB l=true->CB (AV.aG f l)=true
 |[],_=>rfl
 |x::l,h=>by rw [CB] at h;simp only [Bool.and_eq_true] at h;rw [AV.aG,CB,AV.DZ,h.1.1,Ep h.1.2,LK h.2];rfl
end
theorem Uc {f:Nat->Nat}:∀{l:List AV},iE l=true->iE (AV.aG f l)=true
 |[],_=>rfl
 |x::l,h=>by rw [iE,Bool.and_eq_true] at h;rw [AV.aG,iE,Ep h.1,Uc h.2];rfl
def uh:Tm->Bool
 |[]=>true
 |(_,v)::r=>wv v && uh r
def aN:List (List AV)->Bool
 |[]=>true
 |c::r=>gG c && aN r
structure Ok (σ:aF):Prop where
 tm:uh σ.tm=true
 bx:aN σ.bx=true
theorem tH:∀{tm:Tm} (k:Nat),uh tm=true->wv (get tm k)=true
 |[],k,_=>rfl
 |(j,v)::r,k,h=>by
  rw [uh,Bool.and_eq_true] at h;rw [bH];split
  ·exact h.1
  ·exact tH k h.2
theorem LP:∀{tm:Tm} (k:Nat) {v:AV},wv v=true->uh tm=true->uh (put tm k v)=true
 |[],k,v,hv,_=>by rw [put,uh,hv,uh];rfl
 |(j,u)::r,k,v,hv,h=>by
  have h':=h;rw [uh,Bool.and_eq_true] at h;rw [jy];split
  ·rw [uh,hv,h'];rfl
  ·split
   ·rw [uh,hv,h.2];rfl
   ·rw [uh,h.1,LP k hv h.2];rfl
theorem vY:∀{ks:List Nat} {tm:Tm},uh tm=true->uh (gu tm ks)=true
 |[],tm,h=>h
 |k::r,tm,h=>by
  have hg:=tH k h;rw [gu];split
  ·rename_i n l e;rw [e,wv] at hg;exact vY (LP k (by rw [wv];exact hg) h)
  ·exact vY h
theorem rq {tm:Tm} {d:Option Nat} {v:AV} (hv:wv v=true) (h:uh tm=true):uh (eG tm d v)=true:=by
 cases d with
 |none=>exact h
 |some d=>exact LP d hv h
theorem iZ (ks:List Nat):∀{tm:Tm},uh tm=true->uh (prune ks tm)=true
 |[],_=>rfl
 |(j,v)::r,h=>by
  rw [uh,Bool.and_eq_true] at h;rw [prune];split
  ·rw [uh,h.1,iZ ks h.2];rfl
  ·exact iZ ks h.2
theorem aY:∀{b:List (List AV)},aN b=true↔∀c ∈ b,gG c=true
 |[]=>by simp [aN]
 |c::b=>by simp [aN,aY (b:=b)]
theorem lX {a b:List (List AV)} (ha:aN a=true) (hb:aN b=true):aN (a++b)=true:=aY.2 fun v hv=>(List.mem_append.1 hv).elim (aY.1 ha v) (aY.1 hb v)
theorem abj {b:List (List AV)} {i:Nat} {c:List AV} (hb:aN b=true) (hc:gG c=true):aN (b.set i c)=true:=aY.2 fun v hv=>by
 rcases List.mem_or_eq_of_mem_set hv with h|h
 ·exact aY.1 hb v h
 ·rw [h];exact hc
theorem uY:∀{ids:List Nat} {cs b:List (List AV)},aN b=true->aN cs=true->aN (ak b ids cs)=true
 |[],cs,b,hb,_=>by rw [ak];exact hb;intros;contradiction
 |i::r,[],b,hb,_=>by rw [ak];exact hb;intros;contradiction
 |i::r,c::cs,b,hb,hc=>by rw [aN,Bool.and_eq_true] at hc;rw [ak];exact uY (abj hb hc.1) hc.2
theorem oH:∀{ids:List Nat} {b cs:List (List AV)},aN b=true->bD b ids=some cs->aN cs=true
 |[],b,cs,_,h=>by cases h;rfl
 |i::r,b,cs,hb,h=>by
  rw [bD] at h;split at h
  ·rename_i c cs' h1 h2;cases h;rw [aN,aY.1 hb c (List.mem_of_getElem? h1),oH hb h2];rfl
  ·cases h
theorem XJ {b:List (List AV)} (hb:aN b=true) (i:Nat):iE (b.getD i [])=true:=by
 rw [List.getD_eq_getElem?_getD];cases h:b[i]? with
 |none=>rfl
 |some c=>exact xg (aY.1 hb c (List.mem_of_getElem? h))
theorem yJ {l:List AV} (h:iE l=true):iE (l.map AV.cO)=true:=jR.2 fun v hv=>by obtain ⟨u,hu,rfl⟩:=List.mem_map.1 hv;exact ny (jR.1 h u hu)
def Iw:Nat->List (List AV)->List Nat->List Nat->List Nat
 |0,_,_,seen=>seen
 |_+1,_,[],seen=>seen
 |n+1,bx,i::r,seen=>
  match mem i seen with
  |true=>Iw n bx r seen
  |false=>Iw n bx (dG (bx.getD i [])++r) (seen++[i])
theorem CZ {bx:List (List AV)} (hb:aN bx=true):∀(n:Nat) (todo seen:List Nat),reach n bx todo seen=Iw n bx todo seen
 |0,_,_=>rfl
 |n+1,[],_=>rfl
 |n+1,i::r,seen=>by rw [reach,Iw,mX (XJ hb i),CZ hb n,CZ hb n];cases mem i seen<;>rfl
def OD (ρ:Operand->AV) (bx:List (List AV)) (op:Op):List Nat:=
 match op with
 |.load _ a=>uS (ρ a)
 |.store _ a _=>uS (ρ a)
 |.call c=>
  match c.callee with
  |.value f=>Iw 1000000 bx (kQ (ρ f)++dG (c.args.toList.map ρ)) []
  |_=>[]
 |_=>[]
theorem CG {ρ:Operand->AV} {bx:List (List AV)} (hρ:∀x,wv (ρ x)=true) (hb:aN bx=true) (op:Op):eH ρ bx op=OD ρ bx op:=by
 cases op<;>first|rfl|skip
 rename_i c;show (match c.callee with|.value f=>reach 1000000 bx (AV.ids (ρ f)++AV.aA (c.args.toList.map ρ)) []|_=>[])=(match c.callee with|.value f=>Iw 1000000 bx (kQ (ρ f)++dG (c.args.toList.map ρ)) []|_=>[]);cases c.callee<;>first|rfl|skip
 rename_i f;show reach 1000000 bx (AV.ids (ρ f)++AV.aA (c.args.toList.map ρ)) []=Iw 1000000 bx (kQ (ρ f)++dG (c.args.toList.map ρ)) [];rw [xQ (hρ f),mX (jR.2 fun v hv=>by obtain ⟨u,-,rfl⟩:=List.mem_map.1 hv;exact hρ u),CZ hb]
theorem rX {tm:Tm} (h:uh tm=true):∀(x:Operand),wv (val tm x)=true
 |.tmp t=>tH t h
 |.const v=>by
  show wv (cst v)=true;unfold cst;split<;>first|rfl|(split<;>rfl)
 |.func f=>rfl
 |.global _=>rfl
abbrev az:=List AV->List (List AV)->(AV->List (List AV)->Prop)->Prop
abbrev Sp:=List (Nat×az)
mutual
def can:AV->AV
 |.nil=> .sl 0 []
 |.agg l=> .agg (sH l)
 |.bW l=> .bW (sH l)
 |.fn f l=> .fn f (sH l)
 |.bool b=> .bool b
 |.int k n=> .int k n
 |.str s=> .str s
 |.ptr i o=> .ptr i o
 |.sl n l=> .sl n l
 |.row e z n l=> .row e z n l
 |.el l=> .el l
 |.nz k=> .nz k
 |.ql k=> .ql k
 |.low k d m=> .low k d m
 |.dm i e z n=> .dm i e z n
 |.bad=> .bad
def sH:List AV->List AV
 |[]=>[]
 |v::l=>can v::sH l
end
def Is (sp:Sp) (cal:BR):Prop:=∀f c,assoc sp f=some c->∀args bx K0,iE args=true->c (sH args) bx K0->∃r bx',cal f args bx=some (r,bx')∧wv r=true∧aN bx'=true∧∀K,c (sH args) bx K->K r bx'
def D6 (v:AV) (K:AV->Prop):Prop:=
 match v with
 |.row _ _ n l=>K (.sl n l)
 |.bool b=>K (.bool b)
 |.int k n=>K (.int k n)
 |.str s=>K (.str s)
 |.ptr i o=>K (.ptr i o)
 |.nil=>K .nil
 |.sl n l=>K (.sl n l)
 |.el l=>K (.el l)
 |.agg l=>K (.agg l)
 |.bW l=>K (.bW l)
 |.fn f c=>K (.fn f c)
 |.nz k=>K (.nz k)
 |.ql k=>K (.ql k)
 |.low k d m=>K (.low k d m)
 |.dm i e z n=>K (.dm i e z n)
 |.bad=>K .bad
theorem og (v:AV) (K:AV->Prop):D6 v K=K v.cO:=by cases v<;>rfl
mutual
def JM:AV->(AV->Prop)->Prop
 |.agg l,K=>vI l fun l=>K (.agg l)
 |.bW l,K=>vI l fun l=>K (.bW l)
 |.fn f l,K=>vI l fun l=>K (.fn f l)
 |.bool b,K=>K (.bool b)
 |.int k n,K=>K (.int k n)
 |.str s,K=>K (.str s)
 |.ptr i o,K=>K (.ptr i o)
 |.nil,K=>K .nil
 |.sl n l,K=>K (.sl n l)
 |.row e z n l,K=>K (.row e z n l)
 |.el l,K=>K (.el l)
 |.nz k,K=>K (.nz k)
 |.ql k,K=>K (.ql k)
 |.low k d m,K=>K (.low k d m)
 |.dm i e z n,K=>K (.dm i e z n)
 |.bad,K=>K .bad
def vI:List AV->(List AV->Prop)->Prop
 |[],K=>K []
 |v::l,K=>JM v fun v=>vI l fun l=>K (v::l)
end
mutual
theorem Az:∀(v:AV) (K:AV->Prop),JM v K=K v
 |.agg l,K=>by rw [JM,lu]
 |.bW l,K=>by rw [JM,lu]
 |.fn f l,K=>by rw [JM,lu]
 |.ptr ..,_=>rfl
 |.dm ..,_=>rfl
 |.bool _,_=>rfl
 |.int _ _,_=>rfl
 |.str _,_=>rfl
 |.nil,_=>rfl
 |.nz _,_=>rfl
 |.ql _,_=>rfl
 |.low _ _ _,_=>rfl
 |.bad,_=>rfl
 |.sl n l,_=>rfl
 |.row e z n l,_=>rfl
 |.el l,_=>rfl
theorem lu:∀(l:List AV) (K:List AV->Prop),vI l K=K l
 |[],_=>rfl
 |v::l,K=>by rw [vI,Az,lu]
end
def F8:List (List AV)->(List (List AV)->Prop)->Prop
 |[],K=>K []
 |v::l,K=>vI v fun v=>F8 l fun l=>K (v::l)
theorem uI:∀(l:List (List AV)) (K:List (List AV)->Prop),F8 l K=K l
 |[],_=>rfl
 |v::l,K=>by rw [F8,lu,uI]
def Wu:Tm->Nat->AV->(Tm->Prop)->Prop
 |[],n,v,K=>K [(n,v)]
 |(j,u)::r,n,v,K=>
  match Nat.ble n j with
  |false=>K ((n,v)::(j,u)::r)
  |true=>
   match Nat.beq n j with
   |true=>K ((n,v)::r)
   |false=>Wu r n v fun r=>K ((j,u)::r)
theorem MG (n:Nat) (v:AV):∀(tm:Tm) (K:Tm->Prop),Wu tm n v K=K (put tm n v)
 |[],_=>rfl
 |(j,u)::r,K=>by
  rw [Wu,put];cases Nat.ble n j
  ·rfl
  ·cases Nat.beq n j
   ·exact MG n v r _
   ·rfl
def Qq:List Nat->Tm->(Tm->Prop)->Prop
 |[],tm,K=>K tm
 |t::r,tm,K=>
  match get tm t with
  |.row _ _ n l=>Wu tm t (.sl n l) fun tm=>Qq r tm K
  |_=>Qq r tm K
theorem Au:∀(ks:List Nat) (tm:Tm) (K:Tm->Prop),Qq ks tm K=K (gu tm ks)
 |[],_,_=>rfl
 |t::r,tm,K=>by
  rw [Qq,gu];cases get tm t<;>first
   |exact Au r _ _
   |(show Wu _ _ _ _=_;rw [MG];exact Au r _ _)
def JG (ks:List Nat):Tm->(Tm->Prop)->Prop
 |[],K=>K []
 |(k,v)::r,K=>
  match mem k ks with
  |true=>JG ks r fun r=>K ((k,v)::r)
  |false=>JG ks r K
theorem xI (ks:List Nat):∀(tm:Tm) (K:Tm->Prop),JG ks tm K=K (prune ks tm)
 |[],_=>rfl
 |(k,v)::r,K=>by
  rw [JG,prune];cases h:mem k ks
  ·rw [if_neg (by simp)];exact xI ks r K
  ·rw [if_pos rfl];exact xI ks r _
def lJ:List AV->Nat->List AV->(List AV->Prop)->Prop
 |l,0,[],K=>K l
 |x::l,0,v::vs,K=>lJ l 0 vs fun l=>K (v::l)
 |x::l,o+1,vs,K=>lJ l o vs fun l=>K (x::l)
 |[],_,_,_=>False
theorem uj:∀{l:List AV} {o:Nat} {vs:List AV} {K:List AV->Prop},lJ l o vs K->o+vs.length<=l.length∧K (setAt l o vs)
 |[],0,[],K,h=>⟨Nat.le_refl _,h⟩
 |x::l,0,[],K,h=>⟨by simp,h⟩
 |x::l,0,v::vs,K,h=>by obtain ⟨h1,h2⟩:=uj (l:=l) (o:=0) (vs:=vs) h;exact ⟨by simp only [List.length_cons];omega,h2⟩
 |x::l,o+1,[],K,h=>by obtain ⟨h1,h2⟩:=uj (l:=l) (o:=o) (vs:=[]) h;exact ⟨by simp only [lL] at*;omega,h2⟩
 |x::l,o+1,v::vs,K,h=>by obtain ⟨h1,h2⟩:=uj (l:=l) (o:=o) (vs:=v::vs) h;exact ⟨by simp only [List.length_cons] at*;omega,h2⟩
 |[],0,v::vs,K,h=>h.elim
 |[],o+1,[],K,h=>h.elim
 |[],o+1,v::vs,K,h=>h.elim
def V9:Nat->List AV->(List AV->Prop)->Prop
 |0,_,K=>K []
 |n+1,v::l,K=>D6 v fun v=>V9 n l fun l=>K (v::l)
 |_+1,[],_=>False
theorem GH:∀{n:Nat} {l:List AV} {K:List AV->Prop},V9 n l K->n<=l.length∧K ((l.take n).map AV.cO)
 |0,_,_,h=>⟨Nat.zero_le _,h⟩
 |n+1,v::l,K,h=>by rw [V9,og] at h;obtain ⟨h1,h2⟩:=GH h;exact ⟨by simp only [List.length_cons];omega,h2⟩
 |n+1,[],_,h=>h.elim
def zl:List AV->Nat->(AV->Prop)->Prop
 |x::_,0,K=>K x
 |_::l,o+1,K=>zl l o K
 |[],_,_=>False
theorem Dp:∀{l:List AV} {o:Nat} {K:AV->Prop},zl l o K->∃v,l[o]?=some v∧K v
 |x::_,0,K,h=>⟨x,rfl,h⟩
 |_::l,o+1,K,h=>by obtain ⟨v,h1,h2⟩:=Dp (l:=l) (o:=o) h;exact ⟨v,by simpa using h1,h2⟩
 |[],0,_,h=>h.elim
 |[],_+1,_,h=>h.elim
def ac3:List AV->List AV->(List AV->Prop)->Prop
 |[],m,K=>K m
 |x::l,m,K=>ac3 l m fun l=>K (x::l)
theorem VB (m:List AV):∀(l:List AV) (K:List AV->Prop),ac3 l m K=K (l++m)
 |[],_=>rfl
 |x::l,K=>by rw [ac3,VB m l];rfl
def acO (jG:List (Nat×Nat×Bool)):List AV->List (Nat×AV)->(List AV->Prop)->Prop
 |cs,[],K=>K cs
 |cs,(i,v)::r,K=>
  match jG[i]? with
  |none=>False
  |some (o,n,_)=>D6 v fun v=>
   match Nat.beq (cells v).length n with
   |true=>lJ cs o (cells v) fun cs=>acO jG cs r K
   |false=>False
def abS:Nat->List (Nat×AV)->(List AV->Prop)->Prop
 |_,[],K=>K []
 |k,(i,v)::r,K=>
  match Nat.beq i k with
  |true=>abS (k+1) r fun l=>D6 v fun v=>ac3 (cells v) l K
  |false=>False
def O5:List (List AV)->Nat->List AV->(List (List AV)->Prop)->Prop
 |[],_,_,K=>K []
 |_::b,0,c,K=>K (c::b)
 |x::b,i+1,c,K=>O5 b i c fun b=>K (x::b)
theorem O3 (c:List AV):∀(b:List (List AV)) (i:Nat) (K:List (List AV)->Prop),O5 b i c K=K (b.set i c)
 |[],_,_=>by rw [O5];rfl
 |_::b,0,K=>rfl
 |x::b,i+1,K=>by rw [O5,O3 c b i];rfl
def Ur:List Nat->List (List AV)->List (List AV)->(List (List AV)->Prop)->Prop
 |i::r,c::cs,b,K=>O5 b i c fun b=>Ur r cs b K
 |_,_,b,K=>K b
theorem OX:∀(ids:List Nat) (cs b:List (List AV)) (K:List (List AV)->Prop),Ur ids cs b K=K (ak b ids cs)
 |[],cs,b,K=>by cases cs<;>rfl
 |i::r,[],b,K=>rfl
 |i::r,c::cs,b,K=>by rw [Ur,O3,OX r,ak]
def VJ:List (List AV)->List (List AV)->(List (List AV)->Prop)->Prop
 |[],m,K=>K m
 |x::b,m,K=>VJ b m fun b=>K (x::b)
theorem QK (m:List (List AV)):∀(b:List (List AV)) (K:List (List AV)->Prop),VJ b m K=K (b++m)
 |[],_=>rfl
 |x::b,K=>by rw [VJ,QK m b];rfl
def nwK (b nw:List (List AV)) (K:List (List AV)->Prop):Prop:=
 match nw with
 |[]=>K b
 |nw=>VJ b nw K
theorem afQ (b nw:List (List AV)) (K:List (List AV)->Prop):nwK b nw K=K (b++nw):=by
 cases nw with
 |nil=>rw [nwK,List.append_nil]
 |cons x r=>exact QK _ b K
def y7 (tm:Tm) (d:Option Nat) (v:AV) (K:Tm->Prop):Prop:=
 match d with
 |some d=>Wu tm d v K
 |none=>K tm
theorem pK (tm:Tm) (d:Option Nat) (v:AV) (K:Tm->Prop):y7 tm d v K=K (eG tm d v):=by
 cases d with
 |none=>rfl
 |some d=>exact MG d v tm K
def ae4 (op:BinOp) (k:IntKind) (a b:Int) (K:AV->Prop):Prop:=
 match op with
 |.add=>
  match k with
  |.i64=>(-9223372036854775808<=a+b∧a+b<=9223372036854775807)∧Go (K (.int .i64 (a+b)))
  |k=>K (.int k (k.wrap (a+b)))
 |.sub=>
  match k with
  |.i64=>(-9223372036854775808<=a-b∧a-b<=9223372036854775807)∧Go (K (.int .i64 (a-b)))
  |k=>K (.int k (k.wrap (a-b)))
 |.mul=>
  match k with
  |.i64=>(-9223372036854775808<=a*b∧a*b<=9223372036854775807)∧Go (K (.int .i64 (a*b)))
  |k=>K (.int k (k.wrap (a*b)))
 |.rem=>b≠0∧Go (K (.int k (a.tmod b)))
 |.quo=>b≠0∧Go (K (.int k (k.wrap (a.tdiv b))))
 |.eql=>K (.bool (decide (a=b)))
 |.neq=>K (.bool (decide (a≠b)))
 |.lss=>K (.bool (decide (a<b)))
 |.leq=>K (.bool (decide (a<=b)))
 |.gtr=>K (.bool (decide (b<a)))
 |.geq=>K (.bool (decide (b<=a)))
 |_=>False
def ae6 (op:BinOp) (t:Nat) (x y:AV) (K:AV->Prop):Prop:=
 match x with
 |.int k a=>
  match y with
  |.int k' b=>
   match decide (k=k') with
   |true=>ae4 op k a b K
   |false=>False
  |_=>False
 |.str a=>
  match y with
  |.str b=>
   match op with
   |.add=>(a.size+b.size<=1000000000∨a.size+b.size<=nM.B)∧Go (K (.str (a++b)))
   |.eql=>K (.bool (decide (a=b)))
   |.neq=>K (.bool (!decide (a=b)))
   |_=>False
  |_=>False
 |.nz k=>
  match y with
  |.int k' b=>
   match decide (k=k') with
   |true=>
    match op with
    |.eql=>b=0∧Go (K (.bool false))
    |.neq=>b=0∧Go (K (.bool true))
    |_=>False
   |false=>False
  |_=>False
 |.bool a=>
  match y with
  |.bool b=>
   match Nat.beq t 4 with
   |true=>
    match op with
    |.eql=>K (.bool (decide (a=b)))
    |.neq=>K (.bool (!decide (a=b)))
    |_=>False
   |false=>False
  |_=>False
 |.agg l=>
  match y with
  |.agg l'=>
   match Nat.beq t 56 with
   |true=>
    match l with
    |[.str a,.int .i64 n]=>
     match l' with
     |[.str b,.int .i64 m]=>
      match op with
      |.eql=>K (.bool (decide (a=b∧n=m)))
      |.neq=>K (.bool (!decide (a=b∧n=m)))
      |_=>False
     |_=>False
    |_=>False
   |false=>False
  |_=>False
 |_=>False
theorem wrap64 {e:Int} (h:-9223372036854775808<=e∧e<=9223372036854775807):IntKind.i64.wrap e=e:=by rw [IntKind.wrap_i64];omega
theorem abe {op:BinOp} {k:IntKind} {a b:Int} {K:AV->Prop} (h:ae4 op k a b K):∃v,agY op k a b=some (v,true)∧wv v=true∧K v:=by
 cases op<;>unfold ae4 at h<;>simp only [] at h<;>first|exact h.elim|skip
 all_goals first
  |exact ⟨_,rfl,rfl,h⟩
  |(refine ⟨_,by show some (_,decide _)=_;rw [decide_eq_true h.1],rfl,h.2⟩;done)
  |(refine ⟨_,by show some (AV.bool (_==_),_)=_;rw [show (a==b)=decide (a=b) from rfl],rfl,h⟩;done)
  |(cases k<;>simp only [] at h<;>first
    |exact ⟨_,rfl,rfl,h⟩
    |(refine ⟨_,rfl,rfl,?_⟩;rw [wrap64 h.1];exact h.2))
  |skip
 ·refine ⟨_,rfl,rfl,?_⟩;rw [show (a !=b)=decide (a≠b) from by rw [bne,show (a==b)=decide (a=b) from rfl];simp];exact h
theorem abh {op:BinOp} {t:Nat} {x y:AV} {bs:List (List AV)} {K:AV->Prop} (h:ae6 op t x y K):∃v,NH op t x y bs=some ⟨v,bs,[],true⟩∧wv v=true∧K v:=by
 have hb:∀v,bin op x y=some (v,true)->NH op t x y bs=some ⟨v,bs,[],true⟩:=fun v h=>by unfold NH;rw [h];rfl
 have hx:∀b,bin op x y=none->Xe t x y=some b->(op=.eql->NH op t x y bs=some ⟨.bool b,bs,[],true⟩)∧(op=.neq->NH op t x y bs=some ⟨.bool !b,bs,[],true⟩):=fun b h1 h2=>by unfold NH;rw [h1];simp only [];rw [h2];exact ⟨fun e=>by subst e;rfl,fun e=>by subst e;rfl⟩
 unfold ae6 at h;split at h
 ·rename_i k a;split at h
  ·rename_i k' b;split at h
   ·rename_i hk;have hk:=of_decide_eq_true hk;obtain ⟨v,h1,h2⟩:=abe h;exact ⟨v,hb _ (by rw [bin,if_pos hk];exact h1),h2⟩
   ·exact h.elim
  ·exact h.elim
 ·rename_i a;split at h
  ·rename_i b;split at h
   ·exact ⟨_,hb _ (by show some (_,decide _)=_;rw [decide_eq_true (h.1.elim (fun g=>Nat.le_trans g nM.lo) id)]),rfl,h.2⟩
   ·exact ⟨_,hb _ rfl,rfl,h⟩
   ·exact ⟨_,hb _ rfl,rfl,h⟩
   ·exact h.elim
  ·exact h.elim
 ·split at h
  ·split at h
   ·rename_i hk;have hk:=of_decide_eq_true hk;split at h
    ·exact ⟨_,hb _ (by rw [bin,if_pos ⟨hk,h.1⟩];rfl),rfl,h.2⟩
    ·exact ⟨_,hb _ (by rw [bin,if_pos ⟨hk,h.1⟩];rfl),rfl,h.2⟩
    ·exact h.elim
   ·exact h.elim
  ·exact h.elim
 ·rename_i a;split at h
  ·rename_i b;split at h
   ·rename_i ht;have ht:=Nat.eq_of_beq_eq_true ht;have:=hx (decide (a=b)) rfl (by rw [Xe,if_pos ht]);split at h
    ·exact ⟨_,this.1 rfl,rfl,h⟩
    ·exact ⟨_,this.2 rfl,rfl,h⟩
    ·exact h.elim
   ·exact h.elim
  ·exact h.elim
 ·rename_i l;split at h
  ·rename_i l';split at h
   ·rename_i ht;have ht:=Nat.eq_of_beq_eq_true ht;split at h
    ·rename_i a n;split at h
     ·rename_i b m;have:=hx (decide (a=b∧n=m)) rfl (by rw [Xe,if_pos ht]);split at h
      ·exact ⟨_,this.1 rfl,rfl,h⟩
      ·exact ⟨_,this.2 rfl,rfl,h⟩
      ·exact h.elim
     ·exact h.elim
    ·exact h.elim
   ·exact h.elim
  ·exact h.elim
 ·exact h.elim
abbrev K3:=AV->List (List AV)->List (List AV)->Prop
def XF (d:TD) (ad:Bool) (a:AV) (bs:List (List AV)) (K:K3):Prop:=
 match a with
 |.ptr _ o=>
  match bs with
  |[c]=>
   match d.agg with
   |true=>V9 d.size (c.drop o) fun l=>K (.agg l) bs []
   |false=>zl c o fun v=>
    match ad with
    |true=>D6 v fun u=>lJ c o [u] fun c=>K v [c] []
    |false=>D6 v fun v=>K v bs []
  |_=>False
 |.el l=>
  match d.agg with
  |true=>
   match d with
   |⟨z,_,_,_,_,_⟩=>∃x r,l=x++r∧x.length=z∧Go (K (.agg x) bs [])
  |false=>∃v r,l=v::r∧Go (K v bs [])
 |_=>False
theorem XE {d:TD} {ad:Bool} {a:AV} {bs:List (List AV)} {K:K3} (ha:wv a=true) (hb:aN bs=true) (hz:0<d.size) (h:XF d ad a bs K):∃out,rV d ad a bs=some out∧out.ok=true∧wv out.v=true∧aN out.bs=true∧aN out.nw=true∧K out.v out.bs out.nw:=by
 unfold XF at h;split at h
 ·rename_i i o;split at h
  ·rename_i c;have hc:gG c=true:=by rw [aN,Bool.and_eq_true] at hb;exact hb.1
   split at h
   ·rename_i hA;obtain ⟨h1,h2⟩:=GH h;rw [List.length_drop] at h1;refine ⟨⟨.agg (((c.drop o).take d.size).map AV.cO),[c],[],true⟩,?_,rfl,LQ (Ou _ (Ov _ hc)),hb,rfl,h2⟩;show (if d.agg=true then _ else _)=_;rw [if_pos hA,gQ,decide_eq_true oM]
   ·rename_i hA;obtain ⟨v,h1,h2⟩:=Dp h;obtain ⟨w1,w2⟩:=dP.1 hc v (List.mem_of_getElem? h1);cases ad with
    |true=>
     simp only [og] at h2;obtain ⟨h3,h4⟩:=uj h2;refine ⟨⟨v,[setAt c o [v.cO]],[],true⟩,?_,rfl,w2,?_,rfl,h4⟩
     ·show (if d.agg=true then _ else _)=_;rw [if_neg (by rw [hA];simp),h1];rfl
     ·rw [aN,Gx hc (by rw [gG,Vm,w1,ny w2,gG];rfl),aN];rfl
    |false=>
     simp only [og] at h2;refine ⟨⟨v.cO,[c],[],true⟩,?_,rfl,ny w2,hb,rfl,h2⟩;show (if d.agg=true then _ else _)=_;rw [if_neg (by rw [hA];simp),h1];rfl
  ·exact h.elim
 ·rename_i l;have hl:mi l=true:=ha;split at h
  ·rename_i hA;have h:∃x r,l=x++r∧x.length=d.size∧Go (K (.agg x) bs []):=by cases d;exact h
   obtain ⟨x,r,rfl,h1,h2⟩:=h;refine ⟨⟨.agg x,bs,[],true⟩,?_,rfl,?_,hb,rfl,h2⟩
   ·show (if d.agg=true then _ else _)=_;rw [if_pos hA,gQ,←h1,List.take_left,decide_eq_true (by simp)]
   ·exact jD.2 fun v hv=>(nS.1 hl v (List.mem_append_left _ hv)).2
  ·rename_i hA;obtain ⟨v,r,rfl,h2⟩:=h;refine ⟨⟨v,bs,[],true⟩,?_,rfl,(nS.1 hl v (by simp)).2.2.2,hb,rfl,h2⟩;show (if d.agg=true then _ else _)=_;rw [if_neg (by rw [hA];simp)];rfl
 ·exact h.elim
theorem Eg {a b:Nat}:(Nat.beq a b=true)=(a=b):=propext ⟨Nat.eq_of_beq_eq_true,fun h=>by rw [h];exact uN b⟩
theorem aaB {a b:Nat}:(Nat.blt a b=true)=(a<b):=Nat.ble_eq
theorem UF:∀{l:List AV} {j:Nat} {v:AV},AV.y8 l=true->l[j]?=some v->v.pf=true
 |[],j,v,_,h=>by simp at h
 |x::l,j,v,hp,h=>by
  rw [AV.y8,Bool.and_eq_true] at hp;cases j with
  |zero=>simp at h;rw [←h];exact hp.1
  |succ j=>exact UF hp.2 (by simpa using h)
abbrev sZ (x:Option Out) (K:K3):Prop:=∃out,x=some out∧out.ok=true∧wv out.v=true∧aN out.bs=true∧aN out.nw=true∧K out.v out.bs out.nw
def Q4 (d:TD) (a x:AV) (bs:List (List AV)) (K:K3):Prop:=
 match a with
 |.ptr _ o=>
  match bs with
  |[c]=>
   match Nat.beq (cells x).length d.size && (d.agg||x.one) with
   |true=>lJ c o (cells x) fun c=>K .bad [c] []
   |false=>False
  |_=>False
 |_=>False
theorem xK {x:AV} (hx:wv x=true) (h:x.one=true∨∃l,x=.agg l):dZ (cells x)=true:=by
 cases x with
 |agg l=>exact CE hx
 |_=>
  rcases h with h|⟨l,h⟩
  ·show (AV.one _ && dZ [])=true;rw [h];rfl
  ·cases h
theorem Gg {v:AV} (h6:v.flat=true):AV.aj (cells v)=true:=by
 cases v<;>first|exact h6|(show (AV.flat _ && AV.aj [])=true;rw [h6];rfl)
theorem VX {T:kZ} {t:Nat} {d:TD} {a x:AV} {bs:List (List AV)} {K:K3} (hx:wv x=true) (hb:aN bs=true) (hz:1<d.size∨d.agg=false) (h:Q4 d a x bs K):sZ (uM T t d a x bs) K:=by
 unfold Q4 at h;split at h
 ·rename_i i o;split at h
  ·rename_i c;have hc:gG c=true:=by rw [aN,Bool.and_eq_true] at hb;exact hb.1
   split at h
   ·rename_i h1;rw [Bool.and_eq_true,Eg] at h1;obtain ⟨h1,h2⟩:=h1;obtain ⟨h3,h4⟩:=uj h;have hag:d.agg=true->x.isRow=false:=by
     intro hA;cases x<;>first|rfl|skip
     rw [show (cells _).length=1 from rfl] at h1;rcases hz with hz|hz
     ·omega
     ·rw [hA] at hz;cases hz
    have ho:x.one=true∨∃l,x=.agg l:=by
     cases hA:d.agg with
     |false=>rw [hA] at h2;exact .inl h2
     |true=>
      rcases hz with hz|hz
      ·cases x with
       |agg l=>exact .inr ⟨l,rfl⟩
       |_=>rw [show (cells _).length=1 from rfl] at h1;omega
      ·rw [hA] at hz;cases hz
    have h5:=xK hx ho;refine ⟨⟨.bad,[setAt c o (cells x)],[],_⟩,rfl,?_,rfl,?_,rfl,h4⟩
    ·show (decide _ && decide _ && _)=true;rw [decide_eq_true h1,decide_eq_true oM];cases hA:d.agg with
     |false=>rw [hA] at h2;exact h2
     |true=>
      rw [if_pos rfl,h5];have:=yK hx;rw [AV.top,hag hA,Bool.false_or] at this;rw [Gg this];rfl
    ·rw [aN,Gx hc (zW hx h5),aN];rfl
   ·exact h.elim
  ·exact h.elim
 ·exact h.elim
theorem Vh {jG:List (Nat×Nat×Bool)}:∀{ps:List (Nat×AV)} {cs:List AV} {K:List AV->Prop},(∀p ∈ ps,wv p.2=true∧p.2.cO=p.2∧(p.2.one=true∨∃l,p.2=.agg l))->gG cs=true->AV.aj cs=true->acO jG cs ps K->∃l,pX jG cs ps=some l∧gG l=true∧AV.aj l=true∧K l
 |[],cs,K,_,hc,hf,h=>⟨cs,rfl,hc,hf,h⟩
 |(i,v)::r,cs,K,hp,hc,hf,h=>by
  obtain ⟨p1,p2,p3⟩:=hp (i,v) (by simp);rw [acO] at h;rw [pX];cases ho:jG[i]? with
  |none=>rw [ho] at h;exact h.elim
  |some q=>
   obtain ⟨o,n,b⟩:=q;rw [ho] at h;simp only [og] at h;rw [show v.cO=v from p2] at h;split at h
   ·rename_i h1;rw [Eg] at h1;obtain ⟨h3,h4⟩:=uj h;have h5:=xK p1 p3;have h6:v.flat=true:=by have:=oD p1;rw [show v.cO=v from p2] at this;exact this
    have h7:AV.aj (cells v)=true:=by
     cases v<;>first|exact h6|(show (AV.flat _ && AV.aj [])=true;rw [h6];rfl)
    simp only [];rw [if_pos ⟨h1,oM,h6,h5⟩];exact Vh (fun p hp'=>hp p (List.mem_cons_of_mem _ hp')) (Gx hc (zW p1 h5)) (vK hf h7) h4
   ·exact h.elim
def okC:AV->Bool
 |.agg _=>true
 |v=>v.one
def YA:List (Nat×AV)->Bool
 |[]=>true
 |(_,v)::r=>okC v && YA r
theorem Sj {v:AV} (h:okC v=true):v.one=true∨∃l,v=.agg l:=by
 cases v<;>first|exact .inl h|exact .inr ⟨_,rfl⟩
theorem IC:∀{ps:List (Nat×AV)},YA ps=true->∀p ∈ ps,okC p.2=true
 |[],_,p,hp=>by cases hp
 |(i,v)::r,h,p,hp=>by
  rw [YA,Bool.and_eq_true] at h;rcases List.mem_cons.1 hp with rfl|hp
  ·exact h.1
  ·exact IC h.2 p hp
def Rf (d:TD) (ps:List (Nat×AV)) (bs:List (List AV)) (K:K3):Prop:=
 match d.agg && YA ps with
 |true=>acO d.jG d.zero ps fun l=>K (.agg l) bs []
 |false=>False
theorem V4 {d:TD} {ps:List (Nat×AV)} {bs:List (List AV)} {K:K3} (hp:∀p ∈ ps,wv p.2=true∧p.2.cO=p.2) (hb:aN bs=true) (hzc:gG d.zero=true) (hzf:AV.aj d.zero=true) (h:Rf d ps bs K):sZ (zO d ps bs) K:=by
 unfold Rf at h;split at h
 ·rename_i h1;rw [Bool.and_eq_true] at h1;obtain ⟨l,h2,h3,h4,h5⟩:=Vh (fun p hp'=>⟨(hp p hp').1,(hp p hp').2,Sj (IC h1.2 p hp')⟩) hzc hzf h;refine ⟨⟨.agg l,bs,[],true⟩,?_,rfl,?_,hb,rfl,h5⟩
  ·unfold zO;rw [h2];simp only [];rw [gQ,h1.1,h4];rfl
  ·refine jD.2 fun v hv=>⟨?_,dP.1 h3 v hv⟩;obtain ⟨j,hj⟩:=List.getElem?_of_mem hv;exact fJ h4 hj
 ·exact h.elim
def ace (z:Nat):List (Nat×AV)->Bool
 |[]=>true
 |(_,v)::r=>Nat.beq (cells v).length z && ace z r
theorem IQ {z:Nat}:∀{ps:List (Nat×AV)},ace z ps=true->∀p ∈ ps,(cells p.2).length=z
 |[],_,p,hp=>by cases hp
 |(i,v)::r,h,p,hp=>by
  rw [ace,Bool.and_eq_true,Eg] at h;rcases List.mem_cons.1 hp with rfl|hp
  ·exact h.1
  ·exact IQ h.2 p hp
theorem UD {z:Nat}:∀{ps:List (Nat×AV)} {k:Nat} {K:List AV->Prop},(∀p ∈ ps,wv p.2=true∧p.2.cO=p.2∧okC p.2=true∧(cells p.2).length=z)->abS k ps K->∃l,parts k ps=some l∧l.length=ps.length*z∧dZ l=true∧AV.aj l=true∧uX l=true∧K l
 |[],k,K,_,h=>⟨[],rfl,by simp,rfl,rfl,rfl,h⟩
 |(i,v)::r,k,K,hp,h=>by
  obtain ⟨p1,p2,p3,p4⟩:=hp (i,v) (by simp);have p2:v.cO=v:=p2;rw [abS] at h;split at h
  ·rename_i hk;rw [Eg] at hk;obtain ⟨l,h1,h2,h3,h4,h5,h6⟩:=UD (fun p hp'=>hp p (List.mem_cons_of_mem _ hp')) h;simp only [og,VB] at h6;rw [p2] at h6;have h7:=xK p1 (Sj p3);have h8:v.flat=true:=by have:=oD p1;rw [p2] at this;exact this
   have h9:=Gg h8;have h10:uX (cells v)=true:=jD.2 fun u hu=>by obtain ⟨j,hj⟩:=List.getElem?_of_mem hu;exact ⟨fJ h9 hj,dP.1 (zW p1 h7) u hu⟩
   refine ⟨cells v++l,?_,?_,?_,fA h9 h4,Hw h10 h5,h6⟩
   ·rw [parts,if_pos hk,h1];rfl
   ·rw [List.length_append,h2,show (cells v).length=z from p4,List.length_cons,Nat.add_mul,Nat.one_mul,Nat.add_comm]
   ·exact CE (Hw h10 h5)
  ·exact h.elim
def yI (mt:Bool) (L e:Nat) (d:TD) (len:Nat) (ps:List (Nat×AV)) (bs:List (List AV)) (K:K3):Prop:=
 match Nat.blt 0 d.size && Nat.beq ps.length len && Nat.ble (len*d.size) 1000000 && YA ps && ace d.size ps with
 |true=>abS 0 ps fun l=>
  match mt with
  |true=>K (.dm L e d.size len) bs [l]
  |false=>AV.y8 l=true∧Go (K (.row e d.size len l) bs [])
 |false=>False
theorem Ht {mt:Bool} {L e:Nat} {d:TD} {len:Nat} {ps:List (Nat×AV)} {bs:List (List AV)} {K:K3} (hp:∀p ∈ ps,wv p.2=true∧p.2.cO=p.2) (hb:aN bs=true) (h:yI mt L e d len ps bs K):sZ (gy mt L e d len ps bs) K:=by
 unfold yI at h;split at h
 ·rename_i h1;simp only [Bool.and_eq_true,Eg,Nat.ble_eq,aaB] at h1;obtain ⟨⟨⟨⟨a1,a2⟩,a3⟩,a4⟩,a5⟩:=h1;obtain ⟨l,h2,h3,h4,h5,h6,h7⟩:=UD (fun p hp'=>⟨(hp p hp').1,(hp p hp').2,IC a4 p hp',IQ a5 p hp'⟩) h;have hall:(ps.all fun p=>decide ((cells p.2).length=d.size))=true:=by rw [List.all_eq_true];exact fun p hp'=>decide_eq_true (IQ a5 p hp')
  have hok:(decide (0<d.size) && decide (ps.length=len) && decide (l.length=len*d.size) && decide (len*d.size<=1000000) && dZ l && AV.aj l && ps.all fun p=>decide ((cells p.2).length=d.size))=true:=by rw [decide_eq_true a1,decide_eq_true a2,decide_eq_true (by rw [h3,a2]),decide_eq_true a3,h4,h5,hall];rfl
  cases mt with
  |true=>
   refine ⟨⟨.dm L e d.size len,bs,[l],true⟩,?_,rfl,rfl,hb,?_,h7⟩
   ·unfold gy;rw [h2];simp only [];rw [hok];rfl
   ·rw [aN,dA h6,aN];rfl
  |false=>
   refine ⟨⟨.row e d.size len l,bs,[],true⟩,?_,rfl,?_,hb,rfl,h7.2⟩
   ·unfold gy;rw [h2];simp only [];rw [hok];rfl
   ·refine nS.2 fun v hv=>⟨?_,jD.1 h6 v hv⟩;obtain ⟨j,hj⟩:=List.getElem?_of_mem hv;exact UF h7.1 hj
 ·exact h.elim
def Q5 (T:kZ) (t:Nat) (x:AV) (lo hi:Option AV) (bs:List (List AV)) (K:K3):Prop:=
 match x with
 |.str s=>
  match lo.getD (.int .i64 0) with
  |.int _ a=>
   match hi.getD (.int .i64 s.size) with
   |.int _ b=>
    match Nat.beq t 9 with
    |true=>(0<=a∧a<=b∧b<=s.size)∧Go (K (.str (s.extract a.toNat b.toNat)) bs [])
    |false=>False
   |_=>False
  |_=>False
 |v=>
  match AA T t with
  |none=>False
  |some (_,⟨z,_,_,_,_,_⟩)=>
   match elems v with
   |none=>False
   |some (n,l)=>
    match lo.getD (.int .i64 0) with
    |.int _ a=>
     match hi.getD (.int .i64 n) with
     |.int _ b=>(0<=a∧a<=b∧b<=n)∧Go (K (.sl (b.toNat-a.toNat) ((l.drop (a.toNat*z)).take ((b.toNat-a.toNat)*z))) bs [])
     |_=>False
    |_=>False
theorem ES {v:AV} {n:Nat} {l:List AV} (hv:wv v=true) (h:elems v=some (n,l)):mi l=true:=by
 unfold elems at h;split at h<;>cases h<;>first|rfl|exact hv
theorem VY {T:kZ} {t:Nat} {x:AV} {lo hi:Option AV} {bs:List (List AV)} {K:K3} (hx:wv x=true) (hb:aN bs=true) (h:Q5 T t x lo hi bs K):sZ (Jk T t x lo hi bs) K:=by
 unfold Q5 at h;unfold Jk;split at h
 ·rename_i s;simp only [];split at h
  ·rename_i k a ha;rw [ha];simp only [];split at h
   ·rename_i k' b hb';rw [hb'];simp only [];split at h
    ·rename_i ht;rw [Eg] at ht;obtain ⟨⟨h1,h2,h3⟩,h4⟩:=h;refine ⟨⟨_,bs,[],true⟩,?_,rfl,rfl,hb,rfl,h4⟩;rw [gQ,decide_eq_true h1,decide_eq_true h2,decide_eq_true h3,decide_eq_true ht];rfl
    ·exact h.elim
   ·exact h.elim
  ·exact h.elim
 ·rename_i hns;split at h
  ·exact h.elim
  rename_i e z0 z1 z2 z3 z4 z5 hd;obtain ⟨d,hdd⟩:∃d:TD,d=⟨z0,z1,z2,z3,z4,z5⟩:=⟨_,rfl⟩;rw [←hdd] at hd;have hz0:z0=d.size:=by rw [hdd]
  subst hz0;split at h
  ·exact h.elim
  rename_i n l hl;split at h
  ·rename_i k a ha;split at h
   ·rename_i k' b hb';obtain ⟨⟨h1,h2,h3⟩,h4⟩:=h;have hpl:wv (.sl (b.toNat-a.toNat) ((l.drop (a.toNat*d.size)).take ((b.toNat-a.toNat)*d.size)))=true:=PM _ (Iy _ (ES hx hl));refine ⟨⟨_,bs,[],true⟩,?_,rfl,hpl,hb,rfl,h4⟩;split
    ·rename_i s;exact absurd rfl (hns s)
    ·rw [hd];simp only [];rw [hl];simp only [];rw [ha];simp only [];rw [hb'];simp only [];rw [gQ,decide_eq_true h1,decide_eq_true h2,decide_eq_true h3];rfl
   ·exact h.elim
  ·exact h.elim
def Bo (q:Nat×Nat×Bool) (x:AV) (bs:List (List AV)) (K:K3):Prop:=
 match q with
 |(j,n,_)=>
  match Nat.blt 0 n with
  |true=>
   match x with
   |.ptr i o=>
    match j with
    |0=>K (.ptr i o) bs []
    |j=>K (.ptr i (o+j)) bs []
   |.el l=>j<l.length∧Go (K (.el (l.drop j)) bs [])
   |_=>False
  |false=>False
theorem JD {q:Nat×Nat×Bool} {x:AV} {bs:List (List AV)} {K:K3} (hx:wv x=true) (hb:aN bs=true) (h:Bo q x bs K):sZ (kE q x bs) K:=by
 obtain ⟨j,n,b⟩:=q;unfold Bo at h;simp only [] at h;split at h
 ·rename_i hq;rw [aaB] at hq;split at h
  ·rename_i i o;have h:K (.ptr i (o+j)) bs []:=by
    cases j with
    |zero=>exact h
    |succ j=>exact h
   refine ⟨⟨_,bs,[],true⟩,?_,rfl,rfl,hb,rfl,h⟩;unfold kE;simp only [];rw [gQ,decide_eq_true hq]
  ·rename_i l;have hx':wv (.el (l.drop j))=true:=Iy _ hx;refine ⟨⟨_,bs,[],true⟩,?_,rfl,hx',hb,rfl,h.2⟩;unfold kE;simp only [];rw [gQ,decide_eq_true hq,decide_eq_true h.1];rfl
  ·exact h.elim
 ·exact h.elim
def Q9 (q:Nat×Nat×Bool) (x:AV) (bs:List (List AV)) (K:K3):Prop:=
 match x with
 |.agg l=>
  match q.2.2 with
  |true=>V9 q.2.1 (l.drop q.1) fun c=>0<q.2.1∧Go (K (.agg c) bs [])
  |false=>zl l q.1 fun v=>K v bs []
 |_=>False
theorem KU:∀{l:List AV},AV.aj l=true->l.map AV.cO=l
 |[],_=>rfl
 |v::l,h=>by rw [AV.aj,Bool.and_eq_true] at h;rw [List.map_cons,KU h.2,JR h.1]
where
 JR {v:AV} (h:v.flat=true):v.cO=v:=by
  cases v<;>first|rfl|(rw [AV.flat] at h;cases h)
theorem V3 {q:Nat×Nat×Bool} {x:AV} {bs:List (List AV)} {K:K3} (hx:wv x=true) (hb:aN bs=true) (h:Q9 q x bs K):sZ (BN q x bs) K:=by
 unfold Q9 at h;split at h
 ·rename_i l;have hx:uX l=true:=hx;unfold BN;simp only [];split at h
  ·rename_i hq;obtain ⟨h1,h2,h3⟩:=GH h;rw [List.length_drop] at h1;have hf:=uJ (n:=q.2.1) (qL (n:=q.1) (ui hx));rw [KU hf] at h3;refine ⟨⟨.agg ((l.drop q.1).take q.2.1),bs,[],true⟩,?_,rfl,?_,hb,rfl,h3⟩
   ·rw [if_pos hq,gQ,decide_eq_true oM]
   ·exact jD.2 fun v hv=>jD.1 hx v (List.mem_of_mem_drop (List.mem_of_mem_take hv))
  ·rename_i hq;obtain ⟨v,h1,h2⟩:=Dp h;refine ⟨⟨v,bs,[],true⟩,?_,rfl,(jD.1 hx v (List.mem_of_getElem? h1)).2.2,hb,rfl,h2⟩;rw [if_neg (by rw [hq];simp),h1];rfl
 ·exact h.elim
def Bl (d:TD) (x i:AV) (bs:List (List AV)) (K:K3):Prop:=
 match x with
 |.dm b _ z m=>
  match i with
  |.int _ n=>
   match Nat.beq d.size z with
   |true=>(0<=n∧n<m)∧Go (K (.ptr b (n.toNat*z)) bs [])
   |false=>False
  |_=>False
 |x=>
  match elems x with
  |none=>False
  |some (m,l)=>
   match i with
   |.int _ n=>
    match d with
    |⟨z,_,_,_,_,_⟩=>(0<=n∧n<m∧n.toNat*z<l.length)∧Go (K (.el (l.drop (n.toNat*z))) bs [])
   |_=>False
theorem JC {d:TD} {x i:AV} {bs:List (List AV)} {K:K3} (hx:wv x=true) (hb:aN bs=true) (h:Bl d x i bs K):sZ (qQ d x i bs) K:=by
 unfold Bl at h;unfold qQ;split at h
 ·simp only [];split at h
  ·simp only [];split at h
   ·rename_i hz;rw [Eg] at hz;refine ⟨⟨_,bs,[],true⟩,?_,rfl,rfl,hb,rfl,h.2⟩;rw [gQ,decide_eq_true h.1.1,decide_eq_true h.1.2,decide_eq_true hz];rfl
   ·exact h.elim
  ·exact h.elim
 ·rename_i hnb;split at h
  ·exact h.elim
  rename_i m l hl;split at h
  ·rename_i k n;replace h:(0<=n∧n<m∧n.toNat*d.size<l.length)∧Go (K (.el (l.drop (n.toNat*d.size))) bs []):=by cases d;exact h
   have hpl:wv (.el (l.drop (n.toNat*d.size)))=true:=Iy _ (ES hx hl);refine ⟨⟨_,bs,[],true⟩,?_,rfl,hpl,hb,rfl,h.2⟩;split
   ·exact absurd rfl (hnb _ _ _ _)
   ·rw [hl];simp only [];rw [gQ,decide_eq_true h.1.1,decide_eq_true h.1.2.1,decide_eq_true h.1.2.2];rfl
  ·exact h.elim
def Q8 (t:Nat) (x i:AV) (bs:List (List AV)) (K:K3):Prop:=
 match x with
 |.str s=>
  match i with
  |.int _ n=>
   match Nat.beq t 9 with
   |true=>(0<=n∧n<s.size)∧Go (K (.int .u8 (bt s n.toNat)) bs [])
   |false=>False
  |_=>False
 |_=>False
theorem VZ {t:Nat} {x i:AV} {bs:List (List AV)} {K:K3} (hb:aN bs=true) (h:Q8 t x i bs K):sZ (Jl t x i bs) K:=by
 unfold Q8 at h;unfold Jl;split at h
 ·simp only [];split at h
  ·simp only [];split at h
   ·rename_i ht;rw [Eg] at ht;refine ⟨⟨_,bs,[],true⟩,?_,rfl,rfl,hb,rfl,h.2⟩;rw [gQ,decide_eq_true h.1.1,decide_eq_true h.1.2,decide_eq_true ht];rfl
   ·exact h.elim
  ·exact h.elim
 ·exact h.elim
def Hq (x:AV) (i:Nat) (bs:List (List AV)) (K:K3):Prop:=
 match x with
 |.bW l=>zl l i fun v=>K v bs []
 |_=>False
theorem Om {x:AV} {i:Nat} {bs:List (List AV)} {K:K3} (hx:wv x=true) (hb:aN bs=true) (h:Hq x i bs K):sZ (zN x i bs) K:=by
 unfold Hq at h;unfold zN;split at h
 ·obtain ⟨v,h1,h2⟩:=Dp h;refine ⟨⟨v,bs,[],true⟩,?_,rfl,(Cj.1 hx v (List.mem_of_getElem? h1)).2,hb,rfl,h2⟩;simp only [];rw [h1];rfl
 ·exact h.elim
def Bj (e:Nat) (d:TD) (n c:AV) (bs:List (List AV)) (K:K3):Prop:=
 match n with
 |.int _ n=>
  match c with
  |.int _ c=>
   match Nat.blt 0 d.size && Nat.ble d.size 100 && Nat.ble d.bytes 1000 with
   |true=>(n=0∧0<=c∧c<=100000)∧Go (K (.row e d.size 0 []) bs [])
   |false=>False
  |_=>False
 |_=>False
theorem JB {e:Nat} {d:TD} {n c:AV} {bs:List (List AV)} {K:K3} (hb:aN bs=true) (h:Bj e d n c bs K):sZ (qP e d n c bs) K:=by
 unfold Bj at h;unfold qP;split at h
 ·simp only [];split at h
  ·simp only [];split at h
   ·rename_i h1;simp only [Bool.and_eq_true,Nat.ble_eq,aaB] at h1;refine ⟨⟨_,bs,[],true⟩,?_,rfl,rfl,hb,rfl,h.2⟩;rw [gQ,decide_eq_true h.1.1,decide_eq_true h.1.2.1,decide_eq_true h.1.2.2,decide_eq_true h1.1.1,decide_eq_true h1.1.2,decide_eq_true h1.2];rfl
   ·exact h.elim
  ·exact h.elim
 ·exact h.elim
def ae3 (T:kZ) (ts:List Nat) (x:AV) (bs:List (List AV)) (K:K3):Prop:=
 match ts with
 |[t]=>
  match x with
  |.str s=>
   match Nat.beq t 9 with
   |true=>K (.int .i64 s.size) bs []
   |false=>False
  |.dm _ _ _ n=>
   match (AA T t).isSome with
   |true=>K (.int .i64 n) bs []
   |false=>False
  |v=>
   match elems v with
   |none=>False
   |some (n,_)=>
    match (AA T t).isSome with
    |true=>K (.int .i64 n) bs []
    |false=>False
 |_=>False
theorem abd {T:kZ} {ts:List Nat} {x:AV} {bs:List (List AV)} {K:K3} (hb:aN bs=true) (h:ae3 T ts x bs K):sZ (aaq T ts x bs) K:=by
 unfold ae3 at h;unfold aaq;split at h
 ·simp only [];split at h
  ·simp only [];split at h
   ·rename_i ht;rw [Eg] at ht;refine ⟨⟨_,bs,[],true⟩,?_,rfl,rfl,hb,rfl,h⟩;rw [gQ,decide_eq_true ht]
   ·exact h.elim
  ·simp only [];split at h
   ·rename_i ht;exact ⟨⟨_,bs,[],true⟩,by rw [gQ,ht],rfl,rfl,hb,rfl,h⟩
   ·exact h.elim
  ·rename_i h1 h2;split at h
   ·exact h.elim
   rename_i n l hl;split at h
   ·rename_i ht;refine ⟨⟨_,bs,[],true⟩,?_,rfl,rfl,hb,rfl,h⟩;split
    ·exact absurd rfl (h1 _)
    ·exact absurd rfl (h2 _ _ _ _)
    ·rw [hl];simp only [];rw [gQ,ht]
   ·exact h.elim
 ·exact h.elim
def abf (mx:Bool) (x y:AV) (bs:List (List AV)) (K:K3):Prop:=
 match x with
 |.int k a=>
  match y with
  |.int k' b=>
   match decide (k=k') with
   |true=>
    match mx with
    |true=>K (.int k (max a b)) bs []
    |false=>K (.int k (min a b)) bs []
   |false=>False
  |_=>False
 |_=>False
theorem Ua {mx:Bool} {x y:AV} {bs:List (List AV)} {K:K3} (hb:aN bs=true) (h:abf mx x y bs K):sZ ((Nu mx x y).bind fun v=>yes v bs) K:=by
 unfold abf at h;split at h
 ·rename_i k a;split at h
  ·rename_i k' b;split at h
   ·rename_i hk;have hk:=of_decide_eq_true hk;split at h
    ·refine ⟨⟨.int k (max a b),bs,[],true⟩,?_,rfl,rfl,hb,rfl,h⟩;rw [Nu,if_pos hk,if_pos rfl];show some _=some _;congr 3;show (if b>a then b else a)=max a b;split<;>omega
    ·refine ⟨⟨.int k (min a b),bs,[],true⟩,?_,rfl,rfl,hb,rfl,h⟩;rw [Nu,if_pos hk,if_neg (by simp)];show some _=some _;congr 3;show (if b<a then b else a)=min a b;split<;>omega
   ·exact h.elim
  ·exact h.elim
 ·exact h.elim
abbrev adA (ex:Bool) (x:Option Out) (K:K3):Prop:=∃out v,x=some out∧out.ok=true∧wv out.v=true∧wv v=true∧aN out.bs=true∧aN out.nw=true∧(v=out.v∨ex=false∧out.v=.nil∧∃e z,v=.row e z 0 [])∧K v out.bs out.nw
theorem sZ.E {ex:Bool} {x:Option Out} {K:K3} (h:sZ x K):adA ex x K:=by obtain ⟨out,h1,h2,h3,h4,h5,h6⟩:=h;exact ⟨out,out.v,h1,h2,h3,h3,h4,h5,.inl rfl,h6⟩
def Hu (ex:Bool) (e z y:Nat) (s x:AV) (ok:Bool) (bs:List (List AV)) (K:K3):Prop:=
 match ok && Nat.blt 0 z && Nat.ble y 1000 with
 |true=>
  match elems x with
  |none=>False
  |some (m,k)=>
   match s with
   |.nil=>(m<=10000000000∧k.length=m*z)∧Go
    (match ex with
    |true=>(m=0->Go (K .nil bs []))∧(0<m->Go (K (.row e z m k) bs []))
    |false=>K (.row e z m k) bs [])
   |.row e' z' n l=>
    match Nat.beq e' e && Nat.beq z' z with
    |true=>(n+m<=10000000000∧k.length=m*z)∧Go (K (.row e z (n+m) (l++k)) bs [])
    |false=>False
   |_=>False
 |false=>False
def Ub (ex:Bool) (e:Nat) (d:TD) (s x:AV) (ok:Bool) (bs:List (List AV)) (K:K3):Prop:=
 match d with
 |⟨z,y,_,_,_,_⟩=>Hu ex e z y s x ok bs K
theorem Rh {ex:Bool} {e:Nat} {d:TD} {s x:AV} {ok:Bool} {bs:List (List AV)} {K:K3} (hs:wv s=true) (hx:wv x=true) (hb:aN bs=true) (h:Ub ex e d s x ok bs K):adA ex (tZ e d s x ok bs) K:=by
 replace h:Hu ex e d.size d.bytes s x ok bs K:=by cases d;exact h
 unfold Hu at h;split at h
 ·rename_i h1;simp only [Bool.and_eq_true,Nat.ble_eq,aaB] at h1;obtain ⟨⟨a1,a2⟩,a3⟩:=h1;split at h
  ·exact h.elim
  rename_i m k hk;have hp:=ES hx hk;have hcond:∀{n:Nat},n+m<=10000000000->k.length=m*d.size->(ok && decide (n+m<=10000000000) && decide (k.length=m*d.size) && decide (0<d.size) && decide (d.bytes<=1000) && dZ k && AV.aj k)=true:=by intro n b1 b2;rw [a1,decide_eq_true b1,decide_eq_true b2,decide_eq_true a2,decide_eq_true a3,PN hp,bK hp];rfl
  split at h
  ·obtain ⟨⟨b1,b2⟩,h⟩:=h;have hc:tZ e d .nil x ok bs=some ⟨TN .nil e d.size (0+m) m k,bs,[],true⟩:=by unfold tZ;rw [show YY e d.size .nil=some (0,[]) from rfl];simp only [];rw [hk];simp only [];rw [gQ,hcond oM b2];rfl
   rw [Nat.zero_add] at hc;cases m with
   |zero=>
    have hk0:k=[]:=List.eq_nil_of_length_eq_zero (by rw [b2];simp);subst hk0;cases ex with
    |true=>exact ⟨_,_,hc,rfl,rfl,rfl,hb,rfl,.inl rfl,h.1 rfl⟩
    |false=>exact ⟨_,.row e d.size 0 [],hc,rfl,rfl,rfl,hb,rfl,.inr ⟨rfl,rfl,_,_,rfl⟩,h⟩
   |succ m=>
    have hw:wv (.row e d.size (m+1) k)=true:=hp;cases ex with
    |true=>exact ⟨_,_,hc,rfl,hw,hw,hb,rfl,.inl rfl,h.2 oM⟩
    |false=>exact ⟨_,_,hc,rfl,hw,hw,hb,rfl,.inl rfl,h⟩
  ·rename_i e' z' n l;split at h
   ·rename_i h2;rw [Bool.and_eq_true,Eg,Eg] at h2;obtain ⟨⟨b1,b2⟩,h⟩:=h;have hw:wv (.row e d.size (n+m) (l++k))=true:=iH hs hp;have hc:tZ e d (.row e' z' n l) x ok bs=some ⟨.row e d.size (n+m) (l++k),bs,[],true⟩:=by unfold tZ;rw [show YY e d.size (.row e' z' n l)=some (n,l) from by rw [YY,if_pos h2]];simp only [];rw [hk];simp only [];rw [gQ,hcond b1 b2];rfl
    exact ⟨_,_,hc,rfl,hw,hw,hb,rfl,.inl rfl,h⟩
   ·exact h.elim
  ·exact h.elim
 ·exact h.elim
def Hr (ex:Bool) (T:kZ) (b:Builtin) (xs:List AV) (ts:List Nat) (bs:List (List AV)) (K:K3):Prop:=
 match b with
 |.len=>
  match xs with
  |[x]=>ae3 T ts x bs K
  |_=>False
 |.max=>
  match xs with
  |[x,y]=>abf true x y bs K
  |_=>False
 |.min=>
  match xs with
  |[x,y]=>abf false x y bs K
  |_=>False
 |.append=>
  match xs with
  |[s,x]=>
   match ts with
   |[t,t']=>
    match AA T t with
    |none=>False
    |some (e,d)=>Ub ex e d s x (Nat.beq t' t) bs K
   |_=>False
  |_=>False
 |_=>False
theorem Oo {ex:Bool} {T:kZ} {b:Builtin} {xs:List AV} {ts:List Nat} {bs:List (List AV)} {K:K3} (hx:iE xs=true) (hb:aN bs=true) (h:Hr ex T b xs ts bs K):adA ex (Ee T b xs ts bs) K:=by
 unfold Hr at h;unfold Ee;split at h
 ·split at h
  ·exact (abd hb h).E
  ·exact h.elim
 ·split at h
  ·exact (Ua hb h).E
  ·exact h.elim
 ·split at h
  ·exact (Ua hb h).E
  ·exact h.elim
 ·split at h
  ·rename_i s x;simp only [];split at h
   ·rename_i t t';simp only [];split at h
    ·exact h.elim
    rename_i e d hd;rw [hd];simp only [];have hx':=jR.1 hx;have:=Rh (hx' s (by simp)) (hx' x (by simp)) hb h;rw [show decide (t'=t)=Nat.beq t' t from by
     by_cases e:t'=t
     ·rw [decide_eq_true e,e,uN]
     ·rw [decide_eq_false e,Jo e]]
    exact this
   ·exact h.elim
  ·exact h.elim
 ·exact h.elim
def TP (p:List AV->Bool):List (List AV)->Bool
 |[]=>true
 |c::r=>p c && TP p r
theorem Eh (p:List AV->Bool):∀(l:List (List AV)),TP p l=l.all p
 |[]=>rfl
 |c::r=>by rw [TP,List.all_cons,Eh p r]
def AY:List Nat->(List Nat->Prop)->Prop
 |[],K=>K []
 |x::l,K=>AY l fun l=>K (x::l)
theorem kP:∀(l:List Nat) (K:List Nat->Prop),AY l K=K l
 |[],_=>rfl
 |x::l,K=>by rw [AY,kP l]
def XH (sp:Sp) (ids:List Nat) (L:Nat) (f:AV) (xs:List AV) (bs:List (List AV)) (K:K3):Prop:=
 match f with
 |.fn f c=>
  match CP (dG (xs.map AV.cO++c)) ids && TP (fun b=>CP (dG b) ids) bs with
  |true=>
   match assoc sp f with
   |some rf=>vI (sH (gJ ids.idxOf (xs.map AV.cO++c))) fun args=>F8 (bs.map (gJ ids.idxOf)) fun bss=>rf args bss fun v b=>Go
    (match Nat.ble ids.length b.length && below b.length (kQ v) && TP (fun c=>below b.length (dG c)) b with
    |true=>JM (uk (jr ids L) v) fun v=>F8 ((b.take ids.length).map (gJ (jr ids L))) fun b1=>F8 ((b.drop ids.length).map (gJ (jr ids L))) fun b2=>K v b1 b2
    |false=>False)
   |none=>False
  |false=>False
 |_=>False
theorem Gy {f:Nat->Nat}:∀{l:List AV},gG l=true->gG (AV.aG f l)=true
 |[],_=>rfl
 |x::l,h=>by rw [gG] at h;simp only [Bool.and_eq_true] at h;rw [AV.aG,gG,UJ,h.1.1,Ep h.1.2,Gy h.2];rfl
theorem pU {f:Nat->Nat}:∀{b:List (List AV)},aN b=true->b.map (AV.aG f)=b.map (gJ f)∧aN (b.map (AV.aG f))=true
 |[],_=>⟨rfl,rfl⟩
 |c::r,h=>by rw [aN,Bool.and_eq_true] at h;obtain ⟨h1,h2⟩:=pU (f:=f) h.2;refine ⟨by rw [List.map_cons,List.map_cons,h1,xH (xg h.1)],?_⟩;rw [List.map_cons,aN,Gy h.1,h2];rfl
theorem Js {p:List Nat->Bool} {b:List (List AV)} (h:aN b=true):(b.all fun c=>p (AV.aA c))=b.all fun c=>p (dG c):=by
 induction b with
 |nil=>rfl
 |cons c r ih=>
  rw [aN,Bool.and_eq_true] at h;rw [List.all_cons,List.all_cons,ih h.2,mX (xg h.1)]
theorem XG {sp:Sp} {cal:BR} (hI:Is sp cal) {ids:List Nat} {L:Nat} {f:AV} {xs:List AV} {bs:List (List AV)} {K:K3} (hf:wv f=true) (hx:iE xs=true) (hb:aN bs=true) (h:XH sp ids L f xs bs K):sZ (Lp cal ids L f xs bs) K:=by
 unfold XH at h;split at h
 ·rename_i f c;have hc:CB c=true:=hf;have hargs:iE (xs.map AV.cO++c)=true:=Bq (yJ hx) (tC hc);split at h
  ·rename_i h1;rw [Bool.and_eq_true,Eh] at h1;obtain ⟨h1,h2⟩:=h1;split at h
   ·rename_i rf hcon;simp only [lu,uI,Az] at h;have hI:=hI f rf hcon (gJ ids.idxOf (xs.map AV.cO++c)) _ _ (by rw [←xH hargs];exact Uc hargs) h;obtain ⟨r,b,g1,g2,g3,g4⟩:=hI;have h:=g4 _ h;unfold Go at h;split at h
    ·rename_i h3;rw [Bool.and_eq_true,Bool.and_eq_true,Eh,Nat.ble_eq] at h3;obtain ⟨⟨h3,h4⟩,h5⟩:=h3;have hbt:aN (b.take ids.length)=true:=aY.2 fun c hc=>aY.1 g3 c (List.mem_of_mem_take hc);have hbd:aN (b.drop ids.length)=true:=aY.2 fun c hc=>aY.1 g3 c (List.mem_of_mem_drop hc);refine ⟨⟨r.bP (jr ids L),(b.take ids.length).map (AV.aG (jr ids L)),(b.drop ids.length).map (AV.aG (jr ids L)),true⟩,?_,rfl,Ep g2,(pU hbt).2,(pU hbd).2,?_⟩
     ·unfold Lp;simp only [];rw [if_pos ⟨lF hc,by rw [mX hargs];exact h1,by rw [Js (p:=fun l=>CP l ids) hb];exact h2⟩,xH hargs,(pU hb).1,g1];simp only [];rw [decide_eq_true h3,xQ g2,h4,Js (p:=fun l=>below b.length l) g3,h5];rfl
     ·rw [MB g2,(pU hbt).1,(pU hbd).1];exact h
    ·exact h.elim
   ·exact h.elim
  ·exact h.elim
 ·exact h.elim
abbrev Kn:=List (Nat×Bool)
def Y9 (kn:Kn):Operand->Option Bool
 |.tmp t=>assoc kn t
 |_=>none
def adG (kn:Kn) (c:Operand) (cv a b:AV) (bs:List (List AV)) (K:K3):Prop:=
 match Y9 kn c with
 |some true=>D6 a fun v=>K v bs []
 |some false=>D6 b fun v=>K v bs []
 |none=>
  match cv with
  |.bool t=>(t=true->Go (D6 a fun v=>K v bs []))∧(t=false->Go (D6 b fun v=>K v bs []))
  |_=>False
def Qx:List AV->(List AV->Prop)->Prop
 |[],K=>K []
 |v::l,K=>D6 v fun v=>Qx l fun l=>K (v::l)
theorem Jd:∀(l:List AV) (K:List AV->Prop),Qx l K=K (l.map AV.cO)
 |[],_=>rfl
 |v::l,K=>by rw [Qx,og,Jd];rfl
def hdK (v:AV) (K:AV->Prop):Prop:=
 match v with
 |.row e z n l=>K (.row e z n l)
 |.bool b=>K (.bool b)
 |.int k n=>K (.int k n)
 |.str s=>K (.str s)
 |.ptr i o=>K (.ptr i o)
 |.nil=>K .nil
 |.sl n l=>K (.sl n l)
 |.el l=>K (.el l)
 |.agg l=>K (.agg l)
 |.bW l=>K (.bW l)
 |.fn f c=>K (.fn f c)
 |.nz k=>K (.nz k)
 |.ql k=>K (.ql k)
 |.low k d m=>K (.low k d m)
 |.dm i e z n=>K (.dm i e z n)
 |.bad=>K .bad
theorem SS (v:AV) (K:AV->Prop):hdK v K=K v:=by cases v<;>rfl
def JW (sp:Sp) (ex:Bool) (T:kZ) (ad mt:Bool) (L:Nat) (kn:Kn) (ρ:Operand->AV) (bs:List (List AV)) (ids:List Nat) (op:Op) (K:K3):Prop:=
 match op with
 |.move x=>
  match ad with
  |true=>hdK (ρ x) fun v=>K v bs []
  |false=>D6 (ρ x) fun v=>K v bs []
 |.assign x=>hdK (ρ x) fun v=>K v bs []
 |.pick c a b=>adG kn c (ρ c) (ρ a) (ρ b) bs K
 |.alloc t=>
  match T t with
  |some d=>vI d.zero fun z=>K (.ptr L 0) bs [z]
  |none=>False
 |.box t x=>D6 (ρ x) fun v=>
  match okC v with
  |true=>vI (cells v) fun c=>K (.ptr L 0) bs [c]
  |false=>False
 |.build t ps=>
  match T t with
  |some d=>Rf d (uB ρ ps.toList) bs K
  |none=>False
 |.buildSlice t len ps=>
  match AA T t with
  |some q=>yI mt L q.1 q.2 len (uB ρ ps.toList) bs K
  |none=>False
 |.makeSlice t n c=>
  match AA T t with
  |some q=>Bj q.1 q.2 (ρ n) (ρ c) bs K
  |none=>False
 |.load t a=>
  match T t with
  |some d=>XF d ad (ρ a) bs K
  |none=>False
 |.store t a x=>
  match T t with
  |some d=>Q4 d (ρ a) (ρ x) bs K
  |none=>False
 |.nilCheck x=>
  match ρ x with
  |.ptr i o=>K (.ptr i o) bs []
  |.el l=>K (.el l) bs []
  |_=>False
 |.binOp op t x y _=>ae6 op t (ρ x) (ρ y) fun v=>K v bs []
 |.unOp op _ x=>
  match op with
  |.not=>
   match ρ x with
   |.bool b=>K (.bool !b) bs []
   |_=>False
  |_=>False
 |.convert s t x=>
  match Nat.beq s 5 && Nat.beq t 3 with
  |true=>
   match ρ x with
   |.int _ n=>(-9223372036854775808<=n∧n<=9223372036854775807)∧Go (K (.int .i64 n) bs [])
   |_=>False
  |false=>False
 |.makeFunc fn first cap=>
  match fn with
  |.func f=>
   match Nat.beq first.size 0 with
   |true=>Qx (cap.toList.map ρ) fun l=>K (.fn f l) bs []
   |false=>False
  |_=>False
 |.slice t x lo hi mx=>
  match mx with
  |some _=>False
  |none=>Q5 T t (ρ x) (lo.map ρ) (hi.map ρ) bs K
 |.fieldAddr t x f=>
  match T t with
  |some d=>
   match d.jG[f]? with
   |some q=>Bo q (ρ x) bs K
   |none=>False
  |none=>False
 |.field t x f=>
  match T t with
  |some d=>
   match d.jG[f]? with
   |some q=>Q9 q (ρ x) bs K
   |none=>False
  |none=>False
 |.indexAddr t x i=>
  match AA T t with
  |some q=>Bl q.2 (ρ x) (ρ i) bs K
  |none=>False
 |.index t x i=>Q8 t (ρ x) (ρ i) bs K
 |.extract x i=>Hq (ρ x) i bs K
 |.call c=>
  match c.callee with
  |.builtin b=>Hr ex T b (c.args.toList.map ρ) c.argTypes.toList bs K
  |.value f=>XH sp ids L (ρ f) (c.args.toList.map ρ) bs K
  |_=>False
 |_=>False
structure sW (T:kZ):Prop where
 pos:∀t d,T t=some d->0<d.size
 one:∀t d,T t=some d->d.agg=true->1<d.size
 zw:∀t d,T t=some d->gG d.zero=true∧AV.aj d.zero=true
theorem MF {ρ:Operand->AV} (hρ:∀x,wv (ρ x)=true):∀{l:List (Nat×Operand)},∀p ∈ uB ρ l,wv p.2=true∧p.2.cO=p.2
 |[],p,h=>by cases h
 |(i,x)::r,p,h=>by
  rw [uB] at h;rcases List.mem_cons.1 h with rfl|h
  ·exact ⟨ny (hρ x),by show (ρ x).cO.cO=(ρ x).cO;cases ρ x<;>rfl⟩
  ·exact MF hρ p h
theorem Oq {ρ:Operand->AV} (hρ:∀x,wv (ρ x)=true) (l:List Operand):iE (l.map ρ)=true:=jR.2 fun v hv=>by obtain ⟨x,-,rfl⟩:=List.mem_map.1 hv;exact hρ x
theorem Ci {sp:Sp} {cal:BR} (hI:Is sp cal) {T:kZ} (hT:sW T) {ex ad mt:Bool} {L:Nat} {kn:Kn} {ρ:Operand->AV} {bs:List (List AV)} {ids:List Nat} {ty:Nat} {op:Op} {K:K3} (hρ:∀x,wv (ρ x)=true) (hb:aN bs=true) (hkn:∀x b,Y9 kn x=some b->ρ x=.bool b) (h:JW sp ex T ad mt L kn ρ bs ids op K):adA ex (core cal T ad mt L ρ bs ids ty op) K:=by
 cases op<;>unfold JW at h<;>simp only [] at h<;>first|exact h.elim|skip
 ·rename_i x;refine sZ.E ?_;cases ad with
  |true=>
   simp only [SS] at h;exact ⟨⟨ρ x,bs,[],true⟩,rfl,rfl,hρ x,hb,rfl,h⟩
  |false=>
   simp only [og] at h;exact ⟨⟨(ρ x).cO,bs,[],true⟩,rfl,rfl,ny (hρ x),hb,rfl,h⟩
 ·rename_i x;simp only [SS] at h;exact sZ.E ⟨⟨ρ x,bs,[],true⟩,rfl,rfl,hρ x,hb,rfl,h⟩
 ·rename_i c a b;refine sZ.E ?_;unfold adG at h;show sZ (VC (ρ c) (ρ a) (ρ b) bs) K;split at h
  ·rename_i hk;rw [hkn c true hk];simp only [og] at h;exact ⟨⟨(ρ a).cO,bs,[],true⟩,rfl,rfl,ny (hρ a),hb,rfl,h⟩
  ·rename_i hk;rw [hkn c false hk];simp only [og] at h;exact ⟨⟨(ρ b).cO,bs,[],true⟩,rfl,rfl,ny (hρ b),hb,rfl,h⟩
  ·split at h
   ·rename_i t ht;rw [ht];simp only [og,Go] at h;cases t with
    |true=>exact ⟨⟨(ρ a).cO,bs,[],true⟩,rfl,rfl,ny (hρ a),hb,rfl,h.1 rfl⟩
    |false=>exact ⟨⟨(ρ b).cO,bs,[],true⟩,rfl,rfl,ny (hρ b),hb,rfl,h.2 rfl⟩
   ·exact h.elim
 ·rename_i t;refine sZ.E ?_;split at h
  ·rename_i d hd;show sZ (fK (T t) fun d=>Lm L bs d.zero true) K;rw [lu] at h;rw [hd];refine ⟨⟨.ptr L 0,bs,[d.zero],true⟩,rfl,rfl,rfl,hb,?_,h⟩;rw [aN,(hT.zw t d hd).1,aN];rfl
  ·exact h.elim
 ·rename_i t x;refine sZ.E ?_;simp only [og,lu] at h;split at h
  ·rename_i hc;have h5:=xK (ny (hρ x)) (Sj hc);refine ⟨⟨.ptr L 0,bs,[cells (ρ x).cO],true⟩,?_,rfl,rfl,hb,?_,h⟩
   ·show Lm L bs (cells (ρ x).cO) (dZ (cells (ρ x).cO) && (ρ x).cO.flat)=_;rw [h5,oD (hρ x)];rfl
   ·rw [aN,zW (ny (hρ x)) h5,aN];rfl
  ·exact h.elim
 ·rename_i t ps;refine sZ.E ?_;split at h
  ·rename_i d hd;show sZ (fK (T t) fun d=>zO d (uB ρ ps.toList) bs) K;rw [hd];exact V4 (MF hρ) hb (hT.zw t d hd).1 (hT.zw t d hd).2 h
  ·exact h.elim
 ·rename_i t len ps;refine sZ.E ?_;split at h
  ·rename_i q hq;show sZ (fK (AA T t) fun q=>gy mt L q.1 q.2 len (uB ρ ps.toList) bs) K;rw [hq];exact Ht (MF hρ) hb h
  ·exact h.elim
 ·rename_i t a;refine sZ.E ?_;split at h
  ·rename_i d hd;show sZ (fK (T t) fun d=>rV d ad (ρ a) bs) K;rw [hd];exact XE (hρ a) hb (hT.pos t d hd) h
  ·exact h.elim
 ·rename_i t a x;refine sZ.E ?_;split at h
  ·rename_i d hd;show sZ (fK (T t) fun d=>uM T t d (ρ a) (ρ x) bs) K;rw [hd];refine VX (T:=T) (t:=t) (hρ x) hb ?_ h;cases hA:d.agg with
   |true=>exact .inl (hT.one t d hd hA)
   |false=>exact .inr rfl
  ·exact h.elim
 ·rename_i x;refine sZ.E ?_;show sZ (ac5 (ρ x) bs) K;split at h
  ·rename_i i o hx;rw [hx];exact ⟨⟨.ptr i o,bs,[],true⟩,rfl,rfl,rfl,hb,rfl,h⟩
  ·rename_i l hx;have:=hρ x;rw [hx] at this⊢;exact ⟨⟨.el l,bs,[],true⟩,rfl,rfl,this,hb,rfl,h⟩
  ·exact h.elim
 ·rename_i op t x y _;refine sZ.E ?_;obtain ⟨v,h1,h2,h3⟩:=abh (bs:=bs) h;exact ⟨⟨v,bs,[],true⟩,h1,rfl,h2,hb,rfl,h3⟩
 ·rename_i op _ x;refine sZ.E ?_;cases op<;>simp only [] at h<;>first|exact h.elim|skip
  split at h
  ·rename_i b hx;refine ⟨⟨.bool !b,bs,[],true⟩,?_,rfl,rfl,hb,rfl,h⟩;show ac4 .not (ρ x) bs=_;rw [hx];rfl
  ·exact h.elim
 ·rename_i s t x;refine sZ.E ?_;split at h
  ·rename_i h1;rw [Bool.and_eq_true,Eg,Eg] at h1;split at h
   ·rename_i k n hx;refine ⟨⟨.int .i64 n,bs,[],true⟩,?_,rfl,rfl,hb,rfl,h.2⟩;show QE s t (ρ x) bs=_;rw [hx];unfold QE;simp only [];rw [gQ,wrap64 h.1,decide_eq_true h1.1,decide_eq_true h1.2];rfl
   ·exact h.elim
  ·exact h.elim
 ·rename_i fn first cap
  refine sZ.E ?_;split at h
  ·rename_i f;split at h
   ·rename_i h1;rw [Eg] at h1;simp only [Jd,List.map_map] at h;refine ⟨⟨.fn f (cap.toList.map fun x=>(ρ x).cO),bs,[],true⟩,?_,rfl,?_,hb,rfl,h⟩
    ·show (if first.size=0 then _ else _)=_;rw [if_pos h1];rfl
    ·refine Cj.2 fun v hv=>?_;obtain ⟨x,-,rfl⟩:=List.mem_map.1 hv;exact ⟨oD (hρ x),ny (hρ x)⟩
   ·exact h.elim
  ·exact h.elim
 ·rename_i t n c;refine sZ.E ?_;split at h
  ·rename_i q hq;show sZ (fK (AA T t) fun q=>qP q.1 q.2 (ρ n) (ρ c) bs) K;rw [hq];exact JB hb h
  ·exact h.elim
 ·rename_i t x lo hi mx;refine sZ.E ?_;split at h
  ·exact h.elim
  ·exact VY (hρ x) hb h
 ·rename_i t x f;refine sZ.E ?_;split at h
  ·rename_i d hd;split at h
   ·rename_i q hq;show sZ (fK (T t) fun d=>fK (d.jG[f]?) fun q=>kE q (ρ x) bs) K;rw [hd];show sZ (fK (d.jG[f]?) fun q=>kE q (ρ x) bs) K;rw [hq];exact JD (hρ x) hb h
   ·exact h.elim
  ·exact h.elim
 ·rename_i t x f;refine sZ.E ?_;split at h
  ·rename_i d hd;split at h
   ·rename_i q hq;show sZ (fK (T t) fun d=>fK (d.jG[f]?) fun q=>BN q (ρ x) bs) K;rw [hd];show sZ (fK (d.jG[f]?) fun q=>BN q (ρ x) bs) K;rw [hq];exact V3 (hρ x) hb h
   ·exact h.elim
  ·exact h.elim
 ·rename_i t x i;refine sZ.E ?_;split at h
  ·rename_i q hq;show sZ (fK (AA T t) fun q=>qQ q.2 (ρ x) (ρ i) bs) K;rw [hq];exact JC (hρ x) hb h
  ·exact h.elim
 ·rename_i t x i;exact sZ.E (VZ hb h)
 ·rename_i x i;exact sZ.E (Om (hρ x) hb h)
 ·rename_i c;unfold core;simp only [];split at h
  ·rename_i b hc;rw [hc];exact Oo (Oq hρ _) hb h
  ·rename_i f hc;rw [hc];exact sZ.E (XG hI (hρ f) (Oq hρ _) hb h)
  ·exact h.elim
def af0 (b:List (List AV)) (K:Nat->Prop):Prop:=
 match b with
 |[]=>K 0
 |[_]=>K 1
 |[_,_]=>K 2
 |[_,_,_]=>K 3
 |[_,_,_,_]=>K 4
 |[_,_,_,_,_]=>K 5
 |[_,_,_,_,_,_]=>K 6
 |[_,_,_,_,_,_,_]=>K 7
 |[_,_,_,_,_,_,_,_]=>K 8
 |[_,_,_,_,_,_,_,_,_]=>K 9
 |[_,_,_,_,_,_,_,_,_,_]=>K 10
 |[_,_,_,_,_,_,_,_,_,_,_]=>K 11
 |[_,_,_,_,_,_,_,_,_,_,_,_]=>K 12
 |[_,_,_,_,_,_,_,_,_,_,_,_,_]=>K 13
 |[_,_,_,_,_,_,_,_,_,_,_,_,_,_]=>K 14
 |[_,_,_,_,_,_,_,_,_,_,_,_,_,_,_]=>K 15
 |[_,_,_,_,_,_,_,_,_,_,_,_,_,_,_,_]=>K 16
 |[_,_,_,_,_,_,_,_,_,_,_,_,_,_,_,_,_]=>K 17
 |[_,_,_,_,_,_,_,_,_,_,_,_,_,_,_,_,_,_]=>K 18
 |[_,_,_,_,_,_,_,_,_,_,_,_,_,_,_,_,_,_,_]=>K 19
 |[_,_,_,_,_,_,_,_,_,_,_,_,_,_,_,_,_,_,_,_]=>K 20
 |b=>K b.length
theorem acd (b:List (List AV)) (K:Nat->Prop):af0 b K=K b.length:=by unfold af0;split<;>rfl
def xOp (sp:Sp) (ex:Bool) (T:kZ) (md:Md) (kn:Kn) (o:Oper) (σ:aF) (K:aF->Prop):Prop:=
 match σ with
 |⟨tm,bx⟩=>AY (OD (val tm) bx o.op) fun ids=>
  match bD bx ids with
  |none=>False
  |some cs=>af0 bx fun L=>JW sp ex T (jb md.ad o.dst) (jb md.arr o.dst) L kn (val tm) cs ids o.op fun v bs nw=>
   Qq (kS (jb md.ad o.dst) o.op) tm fun tm=>y7 tm o.dst v fun tm=>Ur ids bs bx fun b=>nwK b nw fun b=>K ⟨tm,b⟩
def KN (kn:Kn) (σ:aF):Prop:=∀x b,Y9 kn x=some b->val σ.tm x=.bool b
def knD (kn:Kn) (d:Option Nat):Kn:=
 match d with
 |none=>kn
 |some d=>
  match assoc kn d with
  |none=>kn
  |some _=>[]
def Xx (ex:Bool) (σ σ':aF):Prop:=σ'=σ∨ex=false∧∃tm d e z b,σ=⟨put tm d .nil,b⟩∧σ'=⟨put tm d (.row e z 0 []),b⟩
def Oc (kn:Kn) (d:Option Nat) (K:Kn->Prop):Prop:=
 match d with
 |none=>K kn
 |some d=>
  match assoc kn d with
  |none=>K kn
  |some _=>K []
theorem zu (kn:Kn) (d:Option Nat) (K:Kn->Prop):Oc kn d K=K (knD kn d):=by
 unfold Oc knD;cases d with
 |none=>rfl
 |some d=>
  simp only [];cases assoc kn d<;>rfl
theorem KN.next {kn:Kn} {σ:aF} (h:KN kn σ) (ks:List Nat) (d:Option Nat) (v:AV) (b:List (List AV)):KN (knD kn d) ⟨eG (gu σ.tm ks) d v,b⟩:=by
 have hg:KN kn ⟨gu σ.tm ks,b⟩:=by
  intro x c hx;cases x with
  |tmp t=>
   have:=h _ _ hx;show get (gu σ.tm ks) t=_;have this:get σ.tm t=.bool c:=this;rcases (wH ks σ.tm t).1 with e|e
   ·rw [e];exact this
   ·rw [e,this];rfl
  |_=>cases hx
 unfold knD;cases d with
 |none=>exact hg
 |some d=>
  simp only [];cases hd:assoc kn d with
  |none=>
   simp only [];intro x c hx;cases x with
   |tmp t=>
    have h1:=hg _ _ hx;have hne:t≠d:=by rintro rfl;rw [Y9,hd] at hx;cases hx
    show get (put (gu σ.tm ks) d v) t=_;rw [ah,if_neg hne];exact h1
   |_=>cases hx
  |some q=>
   intro x c hx;cases x<;>cases hx
theorem Q7 {sp:Sp} {cal:BR} (hI:Is sp cal) {T:kZ} (hT:sW T) {ex:Bool} {md:Md} {kn:Kn} {o:Oper} {σ:aF} {K:aF->Prop} (hσ:Ok σ) (hk:KN kn σ) (h:xOp sp ex T md kn o σ K):∃σ1 σ2,VM cal T md o σ=some σ1∧Ok σ2∧Xx ex σ1 σ2∧KN (knD kn o.dst) σ2∧K σ2:=by
 unfold xOp at h;change AY (OD (val σ.tm) σ.bx o.op) _ at h;rw [kP,←CG (rX hσ.tm) hσ.bx o.op] at h;split at h
 ·exact h.elim
 rename_i cs hcs;rw [acd] at h;obtain ⟨out,v,h1,h2,h3,h4,h5,h6,h7,h8⟩:=Ci (ty:=o.type) hI hT (rX hσ.tm) (oH hσ.bx hcs) hk h;rw [Au,pK,OX,afQ] at h8;refine ⟨fin o.dst out (eH (val σ.tm) σ.bx o.op) (kS (jb md.ad o.dst) o.op) σ,_,?_,⟨rq h4 (vY hσ.tm),lX (uY hσ.bx h5) h6⟩,?_,hk.next _ _ _ _,h8⟩
 ·unfold VM Bc;rw [hcs];simp only [];rw [h1];simp only [];rw [if_pos h2]
 ·rcases h7 with rfl|⟨e1,e2,e,z,rfl⟩
  ·exact .inl rfl
  ·cases hd:o.dst with
   |none=>exact .inl rfl
   |some d=>
    refine .inr ⟨e1,_,d,e,z,_,?_,rfl⟩;unfold fin;rw [e2];rfl
def skK (d:Option Nat) (σ:aF) (K:aF->Prop):Prop:=
 match σ with
 |⟨tm,bx⟩=>y7 tm d (.bW []) fun tm=>K ⟨tm,bx⟩
def Ol (sp:Sp) (ex:Bool) (T:kZ) (md:Md) (all:List Oper) (kn:Kn) (o:Oper) (σ:aF) (K:Bool->Kn->aF->Prop):Prop:=
 match o.guard with
 |none=>xOp sp ex T md kn o σ fun τ=>Oc kn o.dst fun kn=>K true kn τ
 |some (j,want)=>
  match (all[j]?).bind (·.dst) with
  |none=>False
  |some t=>
   match assoc kn t with
   |some b=>
    match b==want with
    |true=>xOp sp ex T md kn o σ fun τ=>Oc kn o.dst fun kn=>K true kn τ
    |false=>skK o.dst σ fun τ=>Oc kn o.dst fun kn=>K false kn τ
   |none=>
    match get σ.tm t with
    |.bool b=>(b=want->Go (xOp sp ex T md ((t,want)::kn) o σ fun τ=>Oc ((t,want)::kn) o.dst fun kn=>K true kn τ))∧(b=(!want)->Go (skK o.dst σ fun τ=>Oc ((t,!want)::kn) o.dst fun kn=>K false kn τ))
    |.bW []=>skK o.dst σ fun τ=>Oc kn o.dst fun kn=>K false kn τ
    |_=>False
theorem KN.cons {kn:Kn} {σ:aF} {t:Nat} {b:Bool} (h:KN kn σ) (ht:get σ.tm t=.bool b):KN ((t,b)::kn) σ:=by
 intro x c hx;cases x with
 |tmp k=>
  rw [Y9,assoc] at hx;split at hx
  ·rename_i e;have:=Nat.eq_of_beq_eq_true e;cases hx;show get σ.tm k=_;rw [this];exact ht
  ·exact h (.tmp k) c hx
 |_=>cases hx
theorem GK {kn:Kn} {o:Oper} {σ:aF} (hσ:Ok σ) (hk:KN kn σ):Ok (Ii o σ)∧KN (knD kn o.dst) (Ii o σ):=by refine ⟨⟨rq rfl hσ.tm,hσ.bx⟩,?_⟩;have:=hk.next [] o.dst (.bW []) σ.bx;exact this
theorem TZ {sp:Sp} {cal:BR} (hI:Is sp cal) {T:kZ} (hT:sW T) {ex:Bool} {md:Md} {all:List Oper} {kn:Kn} {o:Oper} {σ:aF} {K:Bool->Kn->aF->Prop} (hσ:Ok σ) (hk:KN kn σ) (h:Ol sp ex T md all kn o σ K):∃σ1 σ2 go zx,nK cal T md all o σ=some σ1∧sU all o σ=some go∧Ok σ2∧Xx ex σ1 σ2∧KN zx σ2∧K go zx σ2:=by
 unfold Ol at h;unfold nK sU;split at h
 ·rename_i hg;rw [hg];obtain ⟨σ1,σ2,h1,h2,h3,h4,h5⟩:=Q7 hI hT hσ hk h;rw [zu] at h5;exact ⟨σ1,σ2,true,_,h1,rfl,h2,h3,h4,h5⟩
 ·rename_i j want hg;rw [hg];simp only [];split at h
  ·exact h.elim
  rename_i t ht;rw [ht];simp only [];have hsk:∀{kn:Kn},KN kn σ->(skK o.dst σ fun τ=>Oc kn o.dst fun kn=>K false kn τ)->∃σ1 σ2 go zx,some (Ii o σ)=some σ1∧some false=some go∧Ok σ2∧Xx ex σ1 σ2∧KN zx σ2∧K go zx σ2:=by intro kn hk h;change (y7 σ.tm o.dst (.bW []) fun tm=>Oc kn o.dst fun kn=>K false kn ⟨tm,σ.bx⟩) at h;rw [pK,zu] at h;exact ⟨_,_,_,_,rfl,rfl,(GK hσ hk).1,.inl rfl,(GK hσ hk).2,h⟩
  split at h
  ·rename_i b hb;have hgt:get σ.tm t=.bool b:=hk (.tmp t) b hb;rw [hgt];simp only [];split at h
   ·rename_i e;rw [e];obtain ⟨σ1,σ2,h1,h2,h3,h4,h5⟩:=Q7 hI hT hσ hk h;rw [zu] at h5;exact ⟨σ1,σ2,true,_,h1,rfl,h2,h3,h4,h5⟩
   ·rename_i e;rw [e];exact hsk hk h
  ·split at h
   ·rename_i b hb;rw [hb];simp only [];by_cases e:b=want
    ·rw [show (b==want)=true from by rw [e];exact beq_self_eq_true want];obtain ⟨σ1,σ2,h1,h2,h3,h4,h5⟩:=Q7 hI hT hσ (hk.cons (by rw [hb,e])) (h.1 e);rw [zu] at h5;exact ⟨σ1,σ2,true,_,h1,rfl,h2,h3,h4,h5⟩
    ·have e2:b=(!want):=by cases b<;>cases want<;>first|rfl|exact absurd rfl e
     rw [show (b==want)=false from by rw [e2];cases want<;>rfl];exact hsk (hk.cons (by rw [hb,e2])) (h.2 e2)
   ·rename_i hb;rw [hb];exact hsk hk h
   ·exact h.elim
def az.OK (P:Program) (f:Nat) (c:az):Prop:=∀args bx K0,c args bx K0->∃r bx',aV P f args bx r bx'∧wv r=true∧aN bx'=true∧∀K,c args bx K->K r bx'
def ae (P:Program) (sp:Sp):Prop:=∀f c,assoc sp f=some c->∀args bx K0,iE args=true->c (sH args) bx K0->∃r bx',aV P f args bx r bx'∧wv r=true∧aN bx'=true∧∀K,c (sH args) bx K->K r bx'
theorem qM {P:Program} {sp:Sp} (h:ae P sp):∃cal,fB P cal∧Is sp cal:=by
 classical
 refine ⟨fun f args bx=>match assoc sp f with
  |some c=>if hh:∃p:AV×List (List AV),aV P f args bx p.1 p.2∧wv p.1=true∧aN p.2=true∧∀K,c (sH args) bx K->K p.1 p.2 then some (Classical.choose hh) else none
  |none=>none,fun f args bx r bx' hc=>?_,fun f c hc args bx K0 hw hK=>?_⟩
 ·dsimp only at hc;split at hc
  ·rename_i c hcf;split at hc
   ·rename_i hh;have:=(Classical.choose_spec hh).1;rw [Option.some.inj hc] at this;exact this
   ·cases hc
  ·cases hc
 ·obtain ⟨r,bx',h1,h2,h3,h4⟩:=h f c hc args bx K0 hw hK;have hh:∃p:AV×List (List AV),aV P f args bx p.1 p.2∧wv p.1=true∧aN p.2=true∧∀K,c (sH args) bx K->K p.1 p.2:=⟨(r,bx'),h1,h2,h3,h4⟩;obtain ⟨g1,g2,g3,g4⟩:=Classical.choose_spec hh;refine ⟨(Classical.choose hh).1,(Classical.choose hh).2,?_,g2,g3,g4⟩;dsimp only;rw [hc];exact dif_pos hh
def EX (P:Program) (n0 base:Nat) (c:Code) (σ:aF) (e:zV) (τ:aF):Prop:=
 ∀{m:Nat->Prop} {lim:Nat->Nat} {bs:List Nat} {w:World} {a:Act} {Q:Exit->Act->World->Prop},n0<=a.tmps.size->base<=σ.bx.length->aB lim bs w σ.bx (Sl σ.tm a) m->(∀b,w.heap.size<=b->m b)->kJ base m lim bs w a τ (Q (WU e))->c.wp P Q a w
def WP (P:Program) (n0 base:Nat) (c:Code) (σ:aF) (Q:zV->aF->Prop):Prop:=jK n0 c=true->Ok σ->∃e τ,EX P n0 base c σ e τ∧Ok τ∧Q e τ
variable {P : Program} {T : kZ} {sp : Sp} {n0 base : Nat} {σ τ : aF} {Q : zV -> aF -> Prop}
theorem hlen {m:Nat->Prop} {lim lim':Nat->Nat} {bs bs':List Nat} {w w':World} {a a':Act} (hb:base<=σ.bx.length) (H:aB lim bs w σ.bx (Sl σ.tm a) m) (hgo:rW base m lim bs w a τ lim' bs' w' a'):base<=τ.bx.length:=by have:=uG (by rw [H.len];exact hb) hgo.pre;rw [hgo.hold.len] at this;exact this
theorem WP.skip (h:Q .normal σ):WP P n0 base .skip σ Q:=fun hg hσ=>⟨.normal,σ,fun hn hb H hm hK=>wp_skip (hK _ _ _ _ ⟨H,Fr.refl,fun _ _ _ h=>h,rfl,rfl⟩),hσ,h⟩
theorem WP.exit {i:Nat} (h:Q (.exit i) σ):WP P n0 base (.exit i) σ Q:=fun hg hσ=>⟨.exit i,σ,fun hn hb H hm hK=>wp_exit (hK _ _ _ _ ⟨H,Fr.refl,fun _ _ _ h=>h,rfl,rfl⟩),hσ,h⟩
theorem WP.ret (h:Q .ret σ):WP P n0 base .ret σ Q:=fun hg hσ=>⟨.ret,σ,fun hn hb H hm hK=>wp_ret (hK _ _ _ _ ⟨H,Fr.refl,fun _ _ _ h=>h,rfl,rfl⟩),hσ,h⟩
def X4 (P:Program) (n0 base:Nat) (b:Code) (Q:zV->aF->Prop) (e:zV) (τ:aF):Prop:=
 match e with
 |.normal=>WP P n0 base b τ Q
 |e=>Q e τ
theorem WP.seq {x y:Code} (h:WP P n0 base x σ (X4 P n0 base y Q)):WP P n0 base (.seq x y) σ Q:=by
 intro hg hσ;rw [jK,Bool.and_eq_true] at hg;obtain ⟨e,τ,h1,h2,h3⟩:=h hg.1 hσ;cases e with
 |normal=>
  obtain ⟨e',τ',k1,k2,k3⟩:=h3 hg.2 h2;refine ⟨e',τ',fun hn hb H hm hK=>wp_seq (h1 hn hb H hm fun eQ mY w1 a1 hgo=>?_),k2,k3⟩;exact k1 (by rw [hgo.nt];exact hn) (hlen hb H hgo) hgo.hold (fun b hb=>hm b (Nat.le_trans hgo.fr.bel.size hb)) (fun jB wR w2 a2 hg2=>hK jB wR w2 a2 (hgo.trans hg2))
 |exit i=>exact ⟨.exit i,τ,fun hn hb H hm hK=>wp_seq (h1 hn hb H hm fun eQ mY w1 a1 hgo=>hK eQ mY w1 a1 hgo),h2,h3⟩
 |ret=>exact ⟨.ret,τ,fun hn hb H hm hK=>wp_seq (h1 hn hb H hm fun eQ mY w1 a1 hgo=>hK eQ mY w1 a1 hgo),h2,h3⟩
def aab (P:Program) (n0 base:Nat) (x y:Code) (σ:aF) (Q:zV->aF->Prop) (v:AV):Prop:=
 match v with
 |.bool t=>(t=true->WP P n0 base x σ Q)∧(t=false->WP P n0 base y σ Q)
 |_=>False
theorem WP.cond {x:Operand} {y z:Code} (h:aab P n0 base y z σ Q (val σ.tm x)):WP P n0 base (.cond x y z) σ Q:=by
 intro hg hσ;rw [jK,Bool.and_eq_true] at hg;unfold aab at h;split at h
 ·rename_i t ht;cases t with
  |true=>
   obtain ⟨e,τ,h1,h2,h3⟩:=h.1 rfl hg.1 hσ;exact ⟨e,τ,fun hn hb H hm hK=>wp_cond (qR x H ht) (h1 hn hb H hm hK),h2,h3⟩
  |false=>
   obtain ⟨e,τ,h1,h2,h3⟩:=h.2 rfl hg.2 hσ;exact ⟨e,τ,fun hn hb H hm hK=>wp_cond (qR x H ht) (h1 hn hb H hm hK),h2,h3⟩
 ·exact h.elim
def NM (i:Nat) (Q:zV->aF->Prop) (e:zV) (τ:aF):Prop:=
 match e with
 |.exit j=>
  match Nat.beq j i with
  |true=>Q .normal τ
  |false=>Q (.exit j) τ
 |e=>Q e τ
theorem WP.block {i:Nat} {x:Code} (h:WP P n0 base x σ (NM i Q)):WP P n0 base (.block i x) σ Q:=by
 intro hg hσ;rw [jK] at hg;obtain ⟨e,τ,h1,h2,h3⟩:=h hg hσ;cases e with
 |normal=>exact ⟨.normal,τ,fun hn hb H hm hK=>wp_block (h1 hn hb H hm fun eQ mY w1 a1 hgo=>hK eQ mY w1 a1 hgo),h2,h3⟩
 |ret=>exact ⟨.ret,τ,fun hn hb H hm hK=>wp_block (h1 hn hb H hm fun eQ mY w1 a1 hgo=>hK eQ mY w1 a1 hgo),h2,h3⟩
 |exit j=>
  unfold NM at h3;simp only [] at h3;by_cases hj:j=i
  ·rw [hj,uN] at h3;refine ⟨.normal,τ,fun {m lim bs w a R} hn hb H hm hK=>wp_block (h1 hn hb H hm fun eQ mY w1 a1 hgo=>?_),h2,h3⟩;show if j=i then R .normal a1 w1 else R (.exit j) a1 w1;rw [if_pos hj];exact hK eQ mY w1 a1 hgo
  ·rw [Jo hj] at h3;refine ⟨.exit j,τ,fun {m lim bs w a R} hn hb H hm hK=>wp_block (h1 hn hb H hm fun eQ mY w1 a1 hgo=>?_),h2,h3⟩;show if j=i then R .normal a1 w1 else R (.exit j) a1 w1;rw [if_neg hj];exact hK eQ mY w1 a1 hgo
def Rx (base:Nat) (σ τ:aF):Prop:=Ok σ->Ok τ∧∀{m:Nat->Prop} {lim:Nat->Nat} {bs:List Nat} {w:World} {a:Act},base<=σ.bx.length->aB lim bs w σ.bx (Sl σ.tm a) m->∃lim' bs',aB lim' bs' w τ.bx (Sl τ.tm a) m∧Fr m lim w lim' w∧∀(i b:Nat),i<base->bs[i]?=some b->bs'[i]?=some b
theorem Rx.refl:Rx base σ σ:=fun h=>⟨h,fun _ H=>⟨_,_,H,Fr.refl,fun _ _ _ h=>h⟩⟩
theorem Rx.trans {σ1 σ2 σ3:aF} (h:Rx base σ1 σ2) (k:Rx base σ2 σ3):Rx base σ1 σ3:=by
 intro hσ;obtain ⟨h1,h2⟩:=h hσ;obtain ⟨k1,k2⟩:=k h1;refine ⟨k1,fun {m lim bs w a} hb H=>?_⟩;obtain ⟨eQ,mY,g1,g2,g3⟩:=h2 hb H;have hb1:base<=σ2.bx.length:=by have:=uG (by rw [H.len];exact hb) g3;rw [g1.len] at this;exact this
 obtain ⟨jB,wR,e1,e2,e3⟩:=k2 hb1 g1;exact ⟨jB,wR,e1,g2.trans e2,fun i b hi hbb=>e3 i b hi (g3 i b hi hbb)⟩
theorem WP.pJ {c:Code} (hr:Rx base σ τ) (h:WP P n0 base c τ Q):WP P n0 base c σ Q:=by intro hg hσ;obtain ⟨r1,r2⟩:=hr hσ;obtain ⟨e,ρ,h1,h2,h3⟩:=h hg r1;refine ⟨e,ρ,fun hn hb H hm hK=>?_,h2,h3⟩;obtain ⟨lim',bs',g1,g2,g3⟩:=r2 hb H;have hgo:rW base _ _ _ _ _ τ lim' bs' _ _:=⟨g1,g2,g3,rfl,rfl⟩;exact h1 hn (hlen hb H hgo) g1 hm (fun jB wR w2 a2 hg2=>hK jB wR w2 a2 (hgo.trans hg2))
theorem WP.MC {c:Code} (h:WP P n0 base c σ fun e τ=>∃τ',Rx base τ τ'∧Q e τ'):WP P n0 base c σ Q:=by intro hg hσ;obtain ⟨e,ρ,h1,h2,τ',h3,h4⟩:=h hg hσ;obtain ⟨r1,r2⟩:=h3 h2;refine ⟨e,τ',fun hn hb H hm hK=>h1 hn hb H hm fun eQ mY w1 a1 hgo=>?_,r1,h4⟩;obtain ⟨lim',bs',g1,g2,g3⟩:=r2 (hlen hb H hgo) hgo.hold;exact hK lim' bs' w1 a1 (hgo.trans ⟨g1,g2,g3,rfl,rfl⟩)
theorem WP.mono {c:Code} {R:zV->aF->Prop} (h:WP P n0 base c σ R) (hm:∀e τ,R e τ->Q e τ):WP P n0 base c σ Q:=by intro hg hσ;obtain ⟨e,τ,h1,h2,h3⟩:=h hg hσ;exact ⟨e,τ,h1,h2,hm e τ h3⟩
def U2 (base:Nat) (I:Nat->aF->Prop) (k:Nat) (Q:zV->aF->Prop) (e:zV) (τ:aF):Prop:=
 match e with
 |.normal=>∃j τ',j<k∧Rx base τ τ'∧I j τ'
 |e=>Q e τ
theorem WP.loop {x:Code} (I:Nat->aF->Prop) {k:Nat} (h0:I k σ) (h:∀k τ,I k τ->WP P n0 base x τ (U2 base I k Q)):WP P n0 base (.loop x) σ Q:=by
 intro hg hσ;rw [jK] at hg
 suffices hs:∀(k:Nat) (σ:aF),Ok σ->I k σ->∃e τ N,Ok τ∧Q e τ∧∀{m:Nat->Prop} {lim:Nat->Nat} {bs:List Nat} {w:World} {a:Act} {Q:Exit->Act->World->Prop},n0<=a.tmps.size->base<=σ.bx.length->aB lim bs w σ.bx (Sl σ.tm a) m->(∀b,w.heap.size<=b->m b)->kJ base m lim bs w a τ (Q (WU e))->Code.rounds P x Q N a w by obtain ⟨e,τ,N,h1,h2,h3⟩:=hs k σ hσ h0;exact ⟨e,τ,fun hn hb H hm hK=>wp_loop_rounds N (h3 hn hb H hm hK),h1,h2⟩
 intro k
 induction k using Nat.strongRecOn with
 |_ k ih=>
  intro σ hσ hI;obtain ⟨e,τ,h1,h2,h3⟩:=h k σ hI hg hσ;cases e with
  |normal=>
   obtain ⟨j,τ',hj,hr,hIj⟩:=h3;obtain ⟨r1,r2⟩:=hr h2;obtain ⟨e',ρ,N,g1,g2,g3⟩:=ih j hj τ' r1 hIj;refine ⟨e',ρ,N+1,g1,g2,fun {m lim bs w a R} hn hb H hm hK=>?_⟩;show x.wp P (Exit.then (Code.rounds P x R N) R) a w;refine h1 hn hb H hm fun eQ mY w1 a1 hgo=>?_;show Code.rounds P x R N a1 w1;obtain ⟨lim',bs',q1,q2,q3⟩:=r2 (hlen hb H hgo) hgo.hold;have Zn:=hgo.trans (rW.mk q1 q2 q3 rfl rfl);exact g3 (Q:=R) (by rw [hgo.nt];exact hn) (hlen hb H Zn) q1 (fun b hb=>hm b (Nat.le_trans hgo.fr.bel.size hb)) (fun jB bs3 w2 a2 hg2=>hK jB bs3 w2 a2 (Zn.trans hg2))
  |exit i=>
   refine ⟨.exit i,τ,1,h2,h3,fun {m lim bs w a R} hn hb H hm hK=>?_⟩;show x.wp P (Exit.then (Code.rounds P x R 0) R) a w;exact h1 hn hb H hm fun eQ mY w1 a1 hgo=>hK eQ mY w1 a1 hgo
  |ret=>
   refine ⟨.ret,τ,1,h2,h3,fun {m lim bs w a R} hn hb H hm hK=>?_⟩;show x.wp P (Exit.then (Code.rounds P x R 0) R) a w;exact h1 hn hb H hm fun eQ mY w1 a1 hgo=>hK eQ mY w1 a1 hgo
theorem WP.mk {c:Code} (h:jK n0 c=true->Ok σ->∃e τ,EX P n0 base c σ e τ∧Ok τ∧Q e τ):WP P n0 base c σ Q:=h
theorem WP.out {c:Code} (h:WP P n0 base c σ Q):jK n0 c=true->Ok σ->∃e τ,EX P n0 base c σ e τ∧Ok τ∧Q e τ:=h
attribute [irreducible] WP
end V
namespace Ab
set_option maxRecDepth 1000000 in
omit [nM] in
theorem TL:∀b:Bool,isT (@Gj ⟨b⟩ (KD Tryz.prog []) 400 10 [] [])=true:=dK
theorem Xh:isT (Gj (KD Tryz.prog []) 400 10 [] [])=true:=TL nM.wide
theorem QJ:aV Tryz.prog 10 [] [] (.bool true) []:=afp (more:=[]) (fun p hp=>by cases hp) (aga Xh)
end Ab
end
end Go.Proofs.YtlmjabnkjmfcmaaGreat
