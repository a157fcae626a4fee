/- Own texts, joined and shortened by a program; no condition. -/
import Derived.Test.YtlmjabnkjmfcmaaGreatK4
namespace Go.Proofs.YtlmjabnkjmfcmaaGreat
open Go Go.RowKit Go.PlainAid
set_option linter.unusedVariables false
set_option linter.unusedSimpArgs false
set_option maxHeartbeats 20000000
set_option linter.defProp false
theorem lG:(∀(p:Prop) [Decidable p],(decide p=true)=p)∧(∀(p:Prop) [Decidable p],(decide p=false)=¬p)∧(∀b:Bool,((!b)=true)=(b=false))∧(∀b:Bool,((!b)=false)=(b=true))∧((true=false)=False)∧((false=true)=False)∧((!true)=false)∧((!false)=true)∧(∀(p:Prop) [Decidable p],(¬¬p)=p)∧(∀(α:Type) (a b:α),(a≠b)=¬(a=b))∧((¬True)=False)∧((¬False)=True):=by refine ⟨fun p _=>decide_eq_true_eq,fun p _=>propext decide_eq_false_iff_not,fun b=>by cases b<;>simp,fun b=>by cases b<;>simp,by simp,by simp,rfl,rfl,fun p _=>propext Decidable.not_not,fun _ _ _=>rfl,by simp,by simp⟩
theorem wV {p:Prop} (h:p:=by first|rfl|(simp [gZ,aV,dQ,wv,qI,xU,AV.one,AV.flat,cs,aA,ai,AV.ak,jv,lW,rB,rF,Hw,fd,bF];first|done|fail)):p:=h
theorem fU {p:Prop} (h:p:=by first|rfl|(simp [gZ,aV,dQ,wv,qI,xU,AV.one,AV.flat,cs,aA,ai,AV.ak,jv,lW,rB,rF,Hw,fd,bF,U6];first|done|fail)):p:=h
theorem dz {p:Prop} (h:p:=by first|rfl|(simp [gZ,aV,dQ,wv,qI,xU,AV.one,AV.flat,cs,aA,ai,AV.ak,jv,lW,rB,rF,Hw,fd,bF,U6,rD,rG];first|done|fail)):p:=h
theorem Kw {p:Prop} (h:p:=by first|rfl|(simp [gZ,aV,dQ,wv,qI,xU,AV.one,AV.flat,cs,aA,ai,AV.ak,jv,lW,rB,rF,Hw,fd,bF,U6,rD,rG,ek];first|done|fail)):p:=h
theorem Ii {p:Prop} (h:p:=by first|rfl|(simp [gZ,aV,dQ,wv,qI,xU,AV.one,AV.flat,cs,aA,ai,AV.ak,jv,lW,rB,rF,Hw,fd,bF,U6,rD,rG,ek,ui,FB];first|done|fail)):p:=h
theorem mV {p:Prop} (h:p:=by first|rfl|(simp [gZ,aV,dQ,wv,qI,xU,AV.one,AV.flat,cs,aA,ai,AV.ak,jv,lW,rB,rF,Hw,fd,bF,U6,rD,rG,ek,mF,mB];first|done|fail)):p:=h
theorem uI {p:Prop} (h:p:=by first|rfl|(simp [gZ,aV,dQ,wv,qI,xU,AV.one,AV.flat,cs,aA,ai,AV.ak,jv,lW,rB,rF,Hw,fd,bF,U6,rD,rG,ek,ui,FB,M7,bJ (pQ _),bQ (bJ (pQ _))];first|done|fail)):p:=h
theorem kV {p:Prop} (h:p:=by (repeat' (first|exact Wk.refl _|exact Wk.amh|exact mQ.refl _|exact vK.refl _|exact mQ.nil|exact vK.nil|exact Wk.nil|exact Wk.row|exact Wk.YG|exact Wk.nP|exact Wk.nz (by first|omega|assumption)|exact Wk.bt (by simp only [decide_eq_true_eq];omega)|exact Wk.bf (by simp only [decide_eq_false_iff_not];omega)|apply Wk.agg|apply Wk.bX|exact Wk.sK|exact Wk.akv|exact Wk.agi|(apply Wk.isc;(repeat' (first|exact dC.mk _|exact dC.nil|exact dC.one|apply dC.app));first|done|fail)|(apply Wk.aba;(repeat' (first|exact dC.mk _|exact dC.nil|exact dC.one|apply dC.app));first|done|fail)|exact Wk.ieq oM|apply mQ.cons|apply vK.cons));first|done|fail):p:=h
theorem oW {p:Prop} (h:p:=by ((try simp only [lL,uR,xH,BO,Nd.lead,Nd.ae,Nd.kids,gm] at*);omega)):p:=h
theorem oA {p:Prop} (h:p:=by first|((try simp only [lL,uR,xH,BO,Nd.lead,Nd.ae,Nd.kids,gm] at*);omega)|(simp_all only [uR,xH,BO,Nd.lead,Nd.ae,Nd.kids,List.length_append,List.length_nil,List.length_cons,gm,true_implies,forall_const];omega)):p:=h
theorem Px {p:Prop} (h:p:=by first|assumption|exact xX.plain|exact xX.plain.QH|exact xX.sq|exact xX.dq|exact xX.al):p:=h
theorem cL {p:Prop} (g:p:=by first|((with_reducible first|refine (?_:(_:Int)<=_)|refine (?_:(_:Int)<_)|refine (?_:(_:Nat)<=_)|refine (?_:(_:Nat)<_)|refine (?_:(_:Nat)=_));omega)|((with_reducible refine (?_:List.length _=_));(try simp only [lL,kT,bT]);first|done|omega)|((with_reducible refine (?_:jR _=true));(repeat' (first|exact aA _|exact ai _|exact jk _|assumption|apply fV|rfl));first|done|fail)|((with_reducible refine (?_:AV.wN _=true));first|rfl|exact bE (aA _))|((with_reducible first|refine (?_:(_:Nat)<=_)|refine (?_:(_:Nat)<_)|refine (?_:(_:Int)<=_));exact oW)|exact V.ML.int _|exact V.ML.nz|exact Hq.int _|exact Hq.nP|exact ZJ.int (by first|assumption|omega)|exact ZJ.nz|((with_reducible first|refine (?_:(_:Int)=_)|refine (?_:(_:Int)≠_));omega)|((with_reducible refine (?_:FT _ _));first|(with_reducible exact FT.ne (by first|assumption|exact Ne.symm aZ)))|fail):p:=g
theorem bN {p:Prop} (g:p:=by ((repeat' (first|with_reducible refine WP.seq ?_|((with_reducible first|refine Go.mk ?_|refine WP.oC B zA ?_|refine WP.draw B zA ?_|refine WP.cond ?_|refine WP.exit ?_|refine WP.skip ?_|refine WP.ret ?_);conv=>whnf)|(with_reducible first|refine WP.block ?_|assumption)|exact xt|with_reducible refine And.intro ?_ ?_|exact cL|((with_reducible intro h);first|(cases h;done)|((try simp only [lG,reduceCtorEq] at h);first|done|(exfalso;omega)|replace h:=h trivial aZ|replace h:=h aZ|skip)|skip)|fail));first|done|fail)):p:=g
theorem Rp {p:Prop} (g:p:=by (((with_reducible refine (?_:∃(j:Nat) (τ':aJ),j<_∧Rx 0 _ τ'∧_));(refine ⟨_,_,?_,Rx.refl,n+1,⟨oM,oM⟩,rfl,rfl⟩);omega);(repeat' (first|exact bN|fail));first|done|fail)):p:=g
theorem VA {p:Prop} (g:p:=by (((with_reducible refine (?_:ag _ _ _ _ _));first|exact ag.aU kV kV wV wV fun K hK=>hK.2 _ ⟨oM,oM⟩);(repeat' (first|exact bN|fail));first|done|fail)):p:=g
theorem aeh {p:Prop} (g:p:=by (((with_reducible refine (?_:WP _ _ _ (.loop _) _ _));refine WP.jB (Rx.prune [0,1,5]) ?_;(apply WP.loop (NmL s a));(case h0=>exact ⟨0,⟨oM,oM⟩,rfl,rfl⟩);(case' h=>(rintro j τ ⟨n,⟨g1,g2⟩,rfl,rfl⟩)));(repeat' (first|exact bN|fail));first|done|fail)):p:=g
theorem aaj {p:Prop} (g:p:=by (((with_reducible refine (?_:bt _ _<=(255:Int)));exact bt_le _ _);(repeat' (first|exact bN|fail));first|done|fail)):p:=g
theorem aai {p:Prop} (g:p:=by (((with_reducible refine (?_:(0:Int)<=bt _ _));exact bt_nonneg _ _);(repeat' (first|exact bN|fail));first|done|fail)):p:=g
theorem aeg {p:Prop} (g:p:=by (((with_reducible refine (?_:∃(j:Nat) (τ':aJ),j<_∧Rx 0 _ τ'∧_));(refine ⟨_,_,?_,Rx.refl,_,⟨?_,?_⟩,rfl,rfl⟩)<;>omega);(repeat' (first|exact bN|fail));first|done|fail)):p:=g
theorem aef {p:Prop} (g:p:=by (((with_reducible refine (?_:ag _ _ _ _ _));first|exact ag.aU kV kV wV wV fun K hK=>hK.2.1 _ _ _ ⟨oM,oM⟩|exact ag.aU kV kV wV wV fun K hK=>hK.2.2 _ _ _ _ dE);(repeat' (first|exact bN|fail));first|done|fail)):p:=g
theorem aah {p:Prop} (g:p:=by (((with_reducible refine (?_:ByteArray.size _+ByteArray.size _<=_));(try simp only [Bk.bA] at*);omega);(repeat' (first|exact bN|fail));first|done|fail)):p:=g
theorem K6 {p:Prop} (g:p:=by (((with_reducible refine (?_:(_:Nat)<_));(simp only [Ci,List.length_drop];omega));(repeat' (first|exact bN|fail));first|done|fail)):p:=g
theorem rX {p:Prop} (g:p:=by (((with_reducible refine (?_:AV.wN _=true));rfl);(repeat' (first|exact bN|fail));first|done|fail)):p:=g
theorem EN {p:Prop} (g:p:=by ((with_reducible refine (?_:∃L:List Cm,dC _ _ L∧_));(apply Exists.intro;apply And.intro;focus (repeat' (first|exact dC.mk _|exact dC.nil|apply dC.app)));(repeat' (first|exact bN|fail));first|done|fail)):p:=g
theorem Ao {p:Prop} (g:p:=by ((with_reducible refine (?_:∃L:List Cm,dC _ _ L∧_));(apply Exists.intro;apply And.intro;focus (repeat' (first|exact dC.mk _|exact dC.nil|exact dC.one|apply dC.app)));(repeat' (first|exact bN|fail));first|done|fail)):p:=g
theorem yo {p:Prop} (g:p:=by (((with_reducible refine (?_:Pn _));first|exact .inl rfl|exact .inr ⟨_,rfl⟩);(repeat' (first|exact bN|fail));first|done|fail)):p:=g
theorem IQ {p:Prop} (g:p:=by (((with_reducible refine (?_:ag _ _ _ _ _));first|exact ag.aU kV kV dz dz fun K hK=>hK.2 _);(repeat' (first|exact bN|fail));first|done|fail)):p:=g
theorem YC {p:Prop} (g:p:=by (((with_reducible refine (?_:WP _ _ _ (.loop _) ⟨(9,_)::_,_⟩ _));(first|apply WP.loop (J2L ts (.sl ts.length (cO ts)))|apply WP.loop (J2L [] .nil));(case h0=>exact ⟨0,-1,0,_,⟨oM,oM⟩,⟨oM,oM⟩,.inl oM,(by show ((0:Nat):Int)+0<=_;omega),rfl,rfl⟩);(case' h=>(rintro j τ ⟨i,l,b,t,⟨p1,p2⟩,⟨p3,p6⟩,p4,p5,rfl,rfl⟩;have mz:=Ya p2)));(repeat' (first|exact bN|fail));first|done|fail)):p:=g
theorem YB {p:Prop} (g:p:=by (((with_reducible refine (?_:∃(j:Nat) (τ':aJ),j<_∧Rx 0 _ τ'∧_));first|(refine ⟨_,_,?_,Rx.prune [0,5,6],i+1,_,⟨oM,oM⟩,?_,rfl,rfl⟩<;>((try rw [show (i+1).toNat=i.toNat+1 by omega]);(try simp only [Bk.bA] at*);omega))|(refine ⟨_,_,?_,Rx.prune [0,5,7,8,9],i+1,_,_,_,⟨oM,oM⟩,⟨oM,oM⟩,?_,?_,rfl,rfl⟩<;>((try rw [show (i+1).toNat=i.toNat+1 by omega]);(try simp only [Bk.bA] at*);omega))|(have q1:=aaE aZ;refine ⟨_,_,?_,Rx.prune [0,5,7,8,9],i+1,i,0,_,⟨oM,oM⟩,⟨oM,oM⟩,?_,?_,rfl,rfl⟩<;>((try rw [show (i+1).toNat=i.toNat+1 by omega]);(try simp only [Bk.bA] at*);omega)));(repeat' (first|exact bN|fail));first|done|fail)):p:=g
theorem YA {p:Prop} (g:p:=by (((with_reducible refine (?_:ag _ _ _ _ _));first|exact ag.aU kV kV dz dz fun K hK=>(hK.elim fun L h=>h.2.2.2 _ (by (try simp only [Bk.bA] at*);omega)));(repeat' (first|exact bN|fail));first|done|fail)):p:=g
theorem Yz {p:Prop} (g:p:=by (((with_reducible refine (?_:WP _ _ _ (.loop _) ⟨(6,_)::_,_⟩ _));(first|apply WP.loop (J1L ts (.sl ts.length (cO ts)) fo)|apply WP.loop (J1L [] .nil fo));(case h0=>exact ⟨0,_,⟨oM,oM⟩,Nat.zero_le _,rfl,rfl⟩);(case' h=>(rintro j τ ⟨i,t,⟨p1,p2⟩,p3,rfl,rfl⟩;have mz:=Ya p2)));(repeat' (first|exact bN|fail));first|done|fail)):p:=g
theorem Nb {p:Prop} (g:p:=by ((refine aea ?_ rfl ?_;(focus omega);intro r);(repeat' (first|exact bN|fail));first|done|fail)):p:=g
theorem Yy {p:Prop} (g:p:=by (((with_reducible refine (?_:∃(j:Nat) (τ':aJ),j<_∧Rx 0 _ τ'∧_));(refine ⟨_,_,?_,Rx.refl,i+1,⟨oM,oM⟩,rfl,rfl⟩);omega);(repeat' (first|exact bN|fail));first|done|fail)):p:=g
theorem qP {p:Prop} (g:p:=by (((with_reducible refine (?_:(_:Nat)<_));(simp only [lL];omega));(repeat' (first|exact bN|fail));first|done|fail)):p:=g
theorem mf {p:Prop} (g:p:=by (((with_reducible refine (?_:∃ks:List Int,(_=_∧_=_)∧_));refine ⟨_,⟨rfl,rfl⟩,?_⟩);(repeat' (first|exact bN|fail));first|done|fail)):p:=g
theorem r9 {p:Prop} (g:p:=by (((with_reducible refine (?_:jP _<=_));(try simp only [lL,jP,Ec,Bk.bA,ByteArray.size_extract] at*);omega);(repeat' (first|exact bN|fail));first|done|fail)):p:=g
theorem IP {p:Prop} (g:p:=by (((with_reducible refine (?_:ag _ _ _ _ _));first|exact ag.aU kV kV mV mV fun K hK=>(Zp hK).2 _ _ ⟨oM,oM,(by (try simp only [lL,jP,Ec,Bk.bA,ByteArray.size_extract] at*);omega)⟩);(repeat' (first|exact bN|fail));first|done|fail)):p:=g
theorem rZ {p:Prop} (g:p:=by (((with_reducible refine (?_:∃ts:List ByteArray,Ku _ _ ts∧_));(apply Exists.intro;apply And.intro;focus (repeat' (first|exact Ku.nil|apply Ku.cons))));(repeat' (first|exact bN|fail));first|done|fail)):p:=g
theorem uE {p:Prop} (g:p:=by (((with_reducible refine (?_:ByteArray.size _+ByteArray.size _<=_));(try simp only [lL,jP,Ec,Bk.bA,ByteArray.size_extract] at*);omega);(repeat' (first|exact bN|fail));first|done|fail)):p:=g
theorem uD {p:Prop} (g:p:=by ((first|(refine IB (b:=3) rfl ?_ ?_;(focus (simp only [lL];omega));intro t r ht)|(refine IB (b:=8) rfl ?_ ?_;(focus (simp only [lL];omega));intro t r ht)|(refine IB (b:=10) rfl ?_ ?_;(focus (simp only [lL];omega));intro t r ht));(repeat' (first|exact bN|fail));first|done|fail)):p:=g
theorem uC {p:Prop} (g:p:=by (((with_reducible refine (?_:(_:Nat)<=_));(try simp only [lL,jP,Ec,Bk.bA,ByteArray.size_extract] at*);omega);(repeat' (first|exact bN|fail));first|done|fail)):p:=g
theorem uB {p:Prop} (g:p:=by (((with_reducible refine (?_:wY _ _));(conv=>whnf);exact ⟨rfl,rfl⟩);(repeat' (first|exact bN|fail));first|done|fail)):p:=g
theorem Ra {p:Prop} (g:p:=by (((with_reducible refine (?_:ag _ _ _ _ _));first|exact ag.aU kV kV mV mV fun K hK=>(Zp hK).2 _ _ _ ⟨oM,oM,(by (try simp only [lL,jP,Ec,Bk.bA,ByteArray.size_extract] at*);omega),oM,oM⟩);(repeat' (first|exact bN|fail));first|done|fail)):p:=g
theorem uA {p:Prop} (g:p:=by (((with_reducible refine (?_:(_:Int)<=_));(try simp only [lL,jP,Ec,Bk.bA,ByteArray.size_extract] at*);omega);(repeat' (first|exact bN|fail));first|done|fail)):p:=g
theorem uz {p:Prop} (g:p:=by (((with_reducible refine (?_:(_:Int)<=_));rw [Int.tmod_eq_emod_of_nonneg oM];(try simp only [lL,Ec]);omega);(repeat' (first|exact bN|fail));first|done|fail)):p:=g
theorem Yx {p:Prop} (g:p:=by (((with_reducible refine (?_:ag _ _ _ _ _));first|exact ag.aU kV kV mV mV fun K hK=>hK.2 _ (by (try simp only [lL,jP,Ec,Bk.bA,ByteArray.size_extract] at*);omega));(repeat' (first|exact bN|fail));first|done|fail)):p:=g
theorem Yw {p:Prop} (g:p:=by (((with_reducible refine (?_:ag _ _ _ _ _));first|exact ag.aU kV kV mV mV fun K hK=>(Zp hK).2 _ _ _ _ ⟨oM,oM,(by (try simp only [lL,jP,Ec,Bk.bA,ByteArray.size_extract] at*);omega),oM,oM,oM,oM⟩);(repeat' (first|exact bN|fail));first|done|fail)):p:=g
theorem uT {p:Prop} (g:p:=by (((with_reducible refine (?_:(_:Int)<_));(try simp only [lL] at*);omega);(repeat' (first|exact bN|fail));first|done|fail)):p:=g
theorem rY {p:Prop} (g:p:=by (((with_reducible intro h);exfalso;simp at h;done);(repeat' (first|exact bN|fail));first|done|fail)):p:=g
theorem Yv {p:Prop} (g:p:=by (((with_reducible refine (?_:(_:Nat)<_));(try simp only [lL,bT,kT] at*);omega);(repeat' (first|exact bN|fail));first|done|fail)):p:=g
theorem Q9 {p:Prop} (g:p:=by (((with_reducible refine (?_:∃(j:Nat) (τ':aJ),j<_∧Rx 0 _ τ'∧_));(refine ⟨post.length,_,?_,Rx.refl,a++[x0],post,by rw [hk];simp,rfl,by rw [List.length_append];rfl⟩);(try simp only [List.length_cons]);omega);(repeat' (first|exact bN|fail));first|done|fail)):p:=g
theorem IM {p:Prop} (g:p:=by (((with_reducible refine (?_:∃x:Nd,_=bF x∧_));refine ⟨x0,rfl,?_⟩);(repeat' (first|exact bN|fail));first|done|fail)):p:=g
theorem Q8 {p:Prop} (g:p:=by (((with_reducible refine (?_:∃x r,List.drop _ (A7 _)=x::r∧_));refine ⟨cs c0,A7 post,(by rw [hk];exact JZ oM),?_⟩);(repeat' (first|exact bN|fail));first|done|fail)):p:=g
theorem Q7 {p:Prop} (g:p:=by (((with_reducible refine (?_:∃x r,List.drop _ (A7 _)=x++r∧_));refine ⟨[cs c0],A7 post,(by rw [hk];exact JZ oM),rfl,?_⟩);(repeat' (first|exact bN|fail));first|done|fail)):p:=g
theorem Yu {p:Prop} (g:p:=by (((with_reducible refine (?_:∃(j:Nat) (τ':aJ),j<_∧Rx 0 _ τ'∧_));(refine ⟨post.length,_,?_,Rx.refl,a'++[c0],post,i'+1,_,_,by rw [hk];simp,by rw [hi,List.length_append];rfl,by rw [hn,vO,oF,oF];omega,by rw [hl,List.flatten_append,vE];simp,rfl,rfl⟩);(try simp only [List.length_cons]);omega);(repeat' (first|exact bN|fail));first|done|fail)):p:=g
theorem Q6 {p:Prop} (g:p:=by (((with_reducible refine (?_:(_:Nat)<_));(simp only [Xq,List.length_drop];omega));(repeat' (first|exact bN|fail));first|done|fail)):p:=g
theorem Q5 {p:Prop} (g:p:=by (((with_reducible refine (?_:WP _ _ _ (.loop _) _ _));(apply WP.loop (LT2 ks.length (jh ks) blk i _ _));(case h0=>first|exact ⟨(by intro d hd;simp at hd),[],[],rfl,rfl,rfl⟩|exact ⟨Di aZ,[],_,(List.nil_append _).symm,rfl,rfl⟩);(case' h=>(rintro j τ ⟨hds,a,r,hk,rfl,rfl⟩;have e1:=congrArg List.length hk;rw [List.length_append] at e1;rcases r with _|⟨d0,post⟩;all_goals (first|(rw [List.length_cons] at*;obtain ⟨q1,q2,q3,q4,q5⟩:=GI hds hk;obtain ⟨q6,q7⟩:=NU _ q1;have q8:=IY blk d0;have q9:=IX blk d0)|(rw [List.length_nil] at e1)))));(repeat' (first|exact bN|fail));first|done|fail)):p:=g
theorem IL {p:Prop} (g:p:=by (((with_reducible refine (?_:∃x r,List.drop _ (jY _)=x++r∧_));refine ⟨rR d0,jY post,(by rw [hk];exact N8 oM),rfl,?_⟩);(repeat' (first|exact bN|fail));first|done|fail)):p:=g
theorem Q4 {p:Prop} (g:p:=by (((with_reducible refine (?_:∃d:Dc,_=rR d∧_));first|(refine ⟨d0,rfl,?_⟩)|(refine ⟨nU blk d0,rfl,?_⟩));(repeat' (first|exact bN|fail));first|done|fail)):p:=g
theorem Na {p:Prop} (g:p:=by (((with_reducible refine (?_:(_:Nat)<_));(try simp only [lL,BB,bT,kT] at*);omega);(repeat' (first|exact bN|fail));first|done|fail)):p:=g
theorem IK {p:Prop} (g:p:=by (((with_reducible refine (?_:∃(j:Nat) (τ':aJ),j<_∧Rx 0 _ τ'∧_));(refine ⟨_,_,?_,Xm (by simp [iY]),i+1,_,⟨oM,oM⟩,oM,rfl,rfl⟩);omega);(repeat' (first|exact bN|fail));first|done|fail)):p:=g
theorem Yt {p:Prop} (g:p:=by (((with_reducible refine (?_:∃(j:Nat) (τ':aJ),j<_∧Rx 0 _ τ'∧_));(refine ⟨_,_,?_,Rx.refl,hds,a++[d0],post,(by rw [hk];simp),rfl,(by rw [List.length_append];rfl)⟩);(try simp only [List.length_cons]);omega);(repeat' (first|exact bN|fail));first|done|fail)):p:=g
theorem IJ {p:Prop} (g:p:=by (((with_reducible refine (?_:ag _ _ _ _ _));first|exact ag.aU kV kV uI uI fun K hK=>hK.2);(repeat' (first|exact bN|fail));first|done|fail)):p:=g
theorem Q3 {p:Prop} (g:p:=by (((with_reducible refine (?_:WP _ _ _ (.loop _) _ _));(apply WP.loop (LT1 ks.length (jh ks) blk));(case h0=>exact ⟨0,s,⟨oM,oM⟩,oM,rfl,rfl⟩);(case' h=>(rintro j τ ⟨i,t,⟨g1,g2⟩,g3,rfl,rfl⟩)));(repeat' (first|exact bN|fail));first|done|fail)):p:=g
theorem Q0 {p:Prop} (g:p:=by (((with_reducible refine (?_:∃(j:Nat) (τ':aJ),j<_∧Rx 0 _ τ'∧_));(refine ⟨_,_,?_,Zu ?_ rfl ?_,hds,a++[d0],post,(by rw [hk];simp),rfl,(by rw [List.length_append];rfl)⟩);(focus ((try simp only [List.length_cons]);omega));(focus (simp [iY]));(repeat' (first|exact ny.nil|refine ny.cons ?_ ?_|exact Pk.same rfl|exact Pk.ptr rfl));done);(repeat' (first|exact bN|fail));first|done|fail)):p:=g
theorem QZ {p:Prop} (g:p:=by (((with_reducible refine (?_:ag _ _ _ _ _));first|exact ag.aU kV kV uI uI fun K hK=>hfin K hK);(repeat' (first|exact bN|fail));first|done|fail)):p:=g
theorem Yp {p:Prop} (g:p:=by (((with_reducible refine (?_:∃v r,List.drop _ (List.drop _ (jY _))=v::r∧_));refine ⟨_,_,(by rw [hk,N8 oM];rfl),?_⟩);(repeat' (first|exact bN|fail));first|done|fail)):p:=g
theorem Yo {p:Prop} (g:p:=by (((with_reducible refine (?_:∃x:Nd,_=bF x∧_));first|(refine ⟨d0.root,rfl,?_⟩)|(refine ⟨(nU blk d0).root,rfl,?_⟩));(repeat' (first|exact bN|fail));first|done|fail)):p:=g
theorem Yn {p:Prop} (g:p:=by (((with_reducible refine (?_:∃x r,List.drop _ (List.drop _ (jY _))=x++r∧_));refine ⟨bF d0.root,cs d0.ae::jY post,(by rw [hk,N8 oM];rfl),rfl,?_⟩);(repeat' (first|exact bN|fail));first|done|fail)):p:=g
theorem QY {p:Prop} (g:p:=by (((with_reducible refine (?_:(_:Nat)<_));(try simp only [lL,List.length_drop,BB] at*);omega);(repeat' (first|exact bN|fail));first|done|fail)):p:=g
theorem QX {p:Prop} (g:p:=by (((with_reducible refine (?_:∃x r,List.drop _ (au _)=x++r∧_));refine ⟨bF x0,au post,(by show List.drop _ (au kids)=_;rw [hk];exact iA oM),rfl,?_⟩);(repeat' (first|exact bN|fail));first|done|fail)):p:=g
theorem II {p:Prop} (g:p:=by (((with_reducible refine (?_:(_:Nat)<_));(try simp only [lL,List.length_drop,bT,kT] at*);omega);(repeat' (first|exact bN|fail));first|done|fail)):p:=g
namespace V
open Ab
def Go (p:Prop):Prop:=p
theorem Go.mk {p:Prop} (h:p):Go p:=h
mutual
def wv:AV->Bool
 |.sl _ l=>jR l
 |.row _ _ _ l=>jR l
 |.el l=>jR l
 |.agg l=>qI l
 |.bX l=>xU l
 |.fn _ l=>xU l
 |_=>true
def jR:List AV->Bool
 |[]=>true
 |v::l=>v.pf && v.flat && v.one && wv v && jR l
def qI:List AV->Bool
 |[]=>true
 |v::l=>v.flat && v.one && wv v && qI l
def xU:List AV->Bool
 |[]=>true
 |v::l=>v.flat && wv v && xU l
end
def gZ:List AV->Bool
 |[]=>true
 |v::l=>wv v && gZ l
def dQ:List AV->Bool
 |[]=>true
 |v::l=>v.one && wv v && dQ l
theorem dB:∀{l:List AV},dQ l=true↔∀v ∈ l,v.one=true∧wv v=true
 |[]=>by simp [dQ]
 |v::l=>by simp [dQ,dB (l:=l),and_assoc]
theorem lD:∀{l:List AV},jR l=true↔∀v ∈ l,v.pf=true∧v.flat=true∧v.one=true∧wv v=true
 |[]=>by simp [jR]
 |v::l=>by simp [jR,lD (l:=l),and_assoc]
theorem iB:∀{l:List AV},qI l=true↔∀v ∈ l,v.flat=true∧v.one=true∧wv v=true
 |[]=>by simp [qI]
 |v::l=>by simp [qI,iB (l:=l),and_assoc]
theorem x9:∀{l:List AV},xU l=true↔∀v ∈ l,v.flat=true∧wv v=true
 |[]=>by simp [xU]
 |v::l=>by simp [xU,x9 (l:=l),and_assoc]
theorem iP:∀{l:List AV},gZ l=true↔∀v ∈ l,wv v=true
 |[]=>by simp [gZ]
 |v::l=>by simp [gZ,iP (l:=l)]
theorem bE:∀{l:List AV},jR l=true->AV.wN l=true
 |[],_=>rfl
 |v::l,h=>by rw [jR] at h;simp only [Bool.and_eq_true] at h;rw [AV.wN,h.1.1.1.1,bE h.2];rfl
theorem bB:∀{l:List AV},jR l=true->AV.ak l=true
 |[],_=>rfl
 |v::l,h=>by rw [jR] at h;simp only [Bool.and_eq_true] at h;rw [AV.ak,h.1.1.1.2,bB h.2];rfl
theorem Cw:∀{l:List AV},jR l=true->dI l=true
 |[],_=>rfl
 |v::l,h=>by rw [jR] at h;simp only [Bool.and_eq_true] at h;rw [dI,h.1.1.2,Cw h.2];rfl
theorem bJ {l:List AV} (h:jR l=true):qI l=true:=iB.2 fun v hv=>(lD.1 h v hv).2
theorem pW:∀{l:List AV},qI l=true->AV.ak l=true
 |[],_=>rfl
 |v::l,h=>by rw [qI] at h;simp only [Bool.and_eq_true] at h;rw [AV.ak,h.1.1.1,pW h.2];rfl
theorem jM:∀{l:List AV},xU l=true->AV.ak l=true
 |[],_=>rfl
 |v::l,h=>by rw [xU] at h;simp only [Bool.and_eq_true] at h;rw [AV.ak,h.1.1,jM h.2];rfl
theorem yf:∀{l:List AV},qI l=true->dI l=true
 |[],_=>rfl
 |v::l,h=>by rw [qI] at h;simp only [Bool.and_eq_true] at h;rw [dI,h.1.1.2,yf h.2];rfl
theorem Bd {l:List AV} (h:qI l=true):gZ l=true:=iP.2 fun v hv=>(iB.1 h v hv).2.2
theorem pF {l:List AV} (h:xU l=true):gZ l=true:=iP.2 fun v hv=>(x9.1 h v hv).2
theorem xm {a b:List AV} (ha:gZ a=true) (hb:gZ b=true):gZ (a++b)=true:=iP.2 fun v hv=>(List.mem_append.1 hv).elim (iP.1 ha v) (iP.1 hb v)
theorem fV {a b:List AV} (ha:jR a=true) (hb:jR b=true):jR (a++b)=true:=lD.2 fun v hv=>(List.mem_append.1 hv).elim (lD.1 ha v) (lD.1 hb v)
theorem BU {a b:List AV} (ha:qI a=true) (hb:qI b=true):qI (a++b)=true:=iB.2 fun v hv=>(List.mem_append.1 hv).elim (iB.1 ha v) (iB.1 hb v)
theorem Cx {l:List AV} (n:Nat) (h:jR l=true):jR (l.drop n)=true:=lD.2 fun v hv=>lD.1 h v (List.mem_of_mem_drop hv)
theorem Jm {l:List AV} (n:Nat) (h:jR l=true):jR (l.take n)=true:=lD.2 fun v hv=>lD.1 h v (List.mem_of_mem_take hv)
theorem sW {l:List AV} (h:dQ l=true):gZ l=true:=iP.2 fun v hv=>(dB.1 h v hv).2
theorem bQ {l:List AV} (h:qI l=true):dQ l=true:=dB.2 fun v hv=>(iB.1 h v hv).2
theorem bH {a b:List AV} (ha:dQ a=true) (hb:dQ b=true):dQ (a++b)=true:=dB.2 fun v hv=>(List.mem_append.1 hv).elim (dB.1 ha v) (dB.1 hb v)
theorem Ig {l:List AV} (n:Nat) (h:dQ l=true):dQ (l.drop n)=true:=dB.2 fun v hv=>dB.1 h v (List.mem_of_mem_drop hv)
theorem Ie {l:List AV} (n:Nat) (h:dQ l=true):dQ (l.take n)=true:=dB.2 fun v hv=>dB.1 h v (List.mem_of_mem_take hv)
theorem Be {l v:List AV} {o:Nat} (h:dQ l=true) (hv:dQ v=true):dQ (setAt l o v)=true:=by
 rw [dB] at h hv⊢;intro x hx;obtain ⟨j,hj⟩:=List.getElem?_of_mem hx;rw [dL] at hj;split at hj
 ·exact hv x (List.mem_of_getElem? hj)
 ·exact h x (List.mem_of_getElem? hj)
theorem uQ {v:AV} (h:wv v=true):v.top=true:=by
 cases v with
 |row e z n l=>rfl
 |sl n l=>show (false||AV.ak l)=true;rw [bB h];rfl
 |el l=>show (false||AV.ak l)=true;rw [bB h];rfl
 |agg l=>show (false||AV.ak l)=true;rw [pW h];rfl
 |bX l=>show (false||AV.ak l)=true;rw [jM h];rfl
 |fn f l=>show (false||AV.ak l)=true;rw [jM h];rfl
 |_=>rfl
theorem lS {v:AV} (h:wv v=true):v.bY.flat=true:=by
 cases v with
 |row e z n l=>exact bB h
 |sl n l=>exact bB h
 |el l=>exact bB h
 |agg l=>exact pW h
 |bX l=>exact jM h
 |fn f l=>exact jM h
 |_=>rfl
theorem N9 (v:AV):v.bY.one=v.one:=by cases v<;>rfl
theorem lK {v:AV} (h:wv v=true):wv v.bY=true:=by cases v<;>exact h
theorem FZ {l:List AV} (h:dQ l=true):qI (l.map AV.bY)=true:=iB.2 fun v hv=>by obtain ⟨u,hu,rfl⟩:=List.mem_map.1 hv;obtain ⟨h1,h2⟩:=dB.1 h u hu;exact ⟨lS h2,by rw [N9];exact h1,lK h2⟩
theorem vN {v:AV} (h:wv v=true) (h1:dI (cells v)=true):dQ (cells v)=true:=by
 cases v with
 |agg l=>exact bQ h
 |_=>show (_ && wv _ && dQ [])=true;rw [h];rw [show cells _=[_] from rfl,dI,dI,Bool.and_true] at h1;rw [h1];rfl
mutual
def iY:AV->List Nat
 |.ptr i _=>[i]
 |.bU i _ _ _=>[i]
 |.agg l|.bX l|.fn _ l=>bW l
 |_=>[]
def bW:List AV->List Nat
 |[]=>[]
 |x::l=>iY x++bW l
end
theorem jr {l:List AV} (h:AV.wN l=true):AV.aN l=[]:=AV.pJ h
mutual
theorem uf:∀{x:AV},wv x=true->AV.ids x=iY x
 |.ptr ..,_=>rfl
 |.bU ..,_=>rfl
 |.bool _,_=>rfl
 |.int _ _,_=>rfl
 |.str _,_=>rfl
 |.nil,_=>rfl
 |.nz _,_=>rfl
 |.nP _,_=>rfl
 |.low _ _ _,_=>rfl
 |.bad,_=>rfl
 |.sl n l,h=>by rw [wv] at h;rw [AV.ids,jr (bE h)];rfl
 |.row e z n l,h=>by rw [wv] at h;rw [AV.ids,jr (bE h)];rfl
 |.el l,h=>by rw [wv] at h;rw [AV.ids,jr (bE h)];rfl
 |.agg l,h=>by rw [wv] at h;rw [AV.ids,iY,kJ (Bd h)]
 |.bX l,h=>by rw [wv] at h;rw [AV.ids,iY,kJ (pF h)]
 |.fn f l,h=>by rw [wv] at h;rw [AV.ids,iY,kJ (pF h)]
theorem kJ:∀{l:List AV},gZ l=true->AV.aN l=bW l
 |[],_=>rfl
 |x::l,h=>by rw [gZ,Bool.and_eq_true] at h;rw [AV.aN,bW,uf h.1,kJ h.2]
end
mutual
def pY (f:Nat->Nat):AV->AV
 |.ptr i o=> .ptr (f i) o
 |.bU i e z n=> .bU (f i) e z n
 |.agg l=> .agg (fA f l)
 |.bX l=> .bX (fA f l)
 |.fn g l=> .fn g (fA f l)
 |v=>v
def fA (f:Nat->Nat):List AV->List AV
 |[]=>[]
 |x::l=>pY f x::fA f l
end
mutual
theorem Ga {f:Nat->Nat}:∀{x:AV},wv x=true->AV.bK f x=pY f x
 |.ptr ..,_=>rfl
 |.bU ..,_=>rfl
 |.bool _,_=>rfl
 |.int _ _,_=>rfl
 |.str _,_=>rfl
 |.nil,_=>rfl
 |.nz _,_=>rfl
 |.nP _,_=>rfl
 |.low _ _ _,_=>rfl
 |.bad,_=>rfl
 |.sl n l,h=>by rw [wv] at h;rw [AV.bK,AV.jT (bE h)];rfl
 |.row e z n l,h=>by rw [wv] at h;rw [AV.bK,AV.jT (bE h)];rfl
 |.el l,h=>by rw [wv] at h;rw [AV.bK,AV.jT (bE h)];rfl
 |.agg l,h=>by rw [wv] at h;rw [AV.bK,pY,tO (Bd h)]
 |.bX l,h=>by rw [wv] at h;rw [AV.bK,pY,tO (pF h)]
 |.fn f l,h=>by rw [wv] at h;rw [AV.bK,pY,tO (pF h)]
theorem tO {f:Nat->Nat}:∀{l:List AV},gZ l=true->AV.aO f l=fA f l
 |[],_=>rfl
 |x::l,h=>by rw [gZ,Bool.and_eq_true] at h;rw [AV.aO,fA,Ga h.1,tO h.2]
end
theorem Nq {f:Nat->Nat} (x:AV):(AV.bK f x).one=x.one:=by cases x<;>rfl
mutual
theorem zC {f:Nat->Nat}:∀{x:AV},wv x=true->wv (AV.bK f x)=true
 |.ptr ..,_=>rfl
 |.bU ..,_=>rfl
 |.bool _,_=>rfl
 |.int _ _,_=>rfl
 |.str _,_=>rfl
 |.nil,_=>rfl
 |.nz _,_=>rfl
 |.nP _,_=>rfl
 |.low _ _ _,_=>rfl
 |.bad,_=>rfl
 |.sl n l,h=>by rw [wv] at h;rw [AV.bK,AV.jT (bE h)];exact h
 |.row e z n l,h=>by rw [wv] at h;rw [AV.bK,AV.jT (bE h)];exact h
 |.el l,h=>by rw [wv] at h;rw [AV.bK,AV.jT (bE h)];exact h
 |.agg l,h=>by rw [wv] at h;rw [AV.bK,wv];exact MW h
 |.bX l,h=>by rw [wv] at h;rw [AV.bK,wv];exact FX h
 |.fn f l,h=>by rw [wv] at h;rw [AV.bK,wv];exact FX h
theorem MW {f:Nat->Nat}:∀{l:List AV},qI l=true->qI (AV.aO f l)=true
 |[],_=>rfl
 |x::l,h=>by rw [qI] at h;simp only [Bool.and_eq_true] at h;rw [AV.aO,qI,AV.yV,Nq,h.1.1.1,h.1.1.2,zC h.1.2,MW h.2];rfl
theorem FX {f:Nat->Nat}:∀{l:List AV},xU l=true->xU (AV.aO f l)=true
 |[],_=>rfl
 |x::l,h=>by rw [xU] at h;simp only [Bool.and_eq_true] at h;rw [AV.aO,xU,AV.yV,h.1.1,zC h.1.2,FX h.2];rfl
end
theorem MS {f:Nat->Nat}:∀{l:List AV},gZ l=true->gZ (AV.aO f l)=true
 |[],_=>rfl
 |x::l,h=>by rw [gZ,Bool.and_eq_true] at h;rw [AV.aO,gZ,zC h.1,MS h.2];rfl
def ni:Tm->Bool
 |[]=>true
 |(_,v)::r=>wv v && ni r
def aV:List (List AV)->Bool
 |[]=>true
 |c::r=>dQ c && aV r
structure Ok (σ:aJ):Prop where
 tm:ni σ.tm=true
 bx:aV σ.bx=true
theorem pG:∀{tm:Tm} (k:Nat),ni tm=true->wv (get tm k)=true
 |[],k,_=>rfl
 |(j,v)::r,k,h=>by
  rw [ni,Bool.and_eq_true] at h;rw [bD];split
  ·exact h.1
  ·exact pG k h.2
theorem FY:∀{tm:Tm} (k:Nat) {v:AV},wv v=true->ni tm=true->ni (put tm k v)=true
 |[],k,v,hv,_=>by rw [put,ni,hv,ni];rfl
 |(j,u)::r,k,v,hv,h=>by
  have h':=h;rw [ni,Bool.and_eq_true] at h;rw [ik];split
  ·rw [ni,hv,h'];rfl
  ·split
   ·rw [ni,hv,h.2];rfl
   ·rw [ni,h.1,FY k hv h.2];rfl
theorem rU:∀{ks:List Nat} {tm:Tm},ni tm=true->ni (eZ tm ks)=true
 |[],tm,h=>h
 |k::r,tm,h=>by
  have hg:=pG k h;rw [eZ];split
  ·rename_i n l e;rw [e,wv] at hg;exact rU (FY k (by rw [wv];exact hg) h)
  ·exact rU h
theorem qf {tm:Tm} {d:Option Nat} {v:AV} (hv:wv v=true) (h:ni tm=true):ni (dW tm d v)=true:=by
 cases d with
 |none=>exact h
 |some d=>exact FY d hv h
theorem gV (ks:List Nat):∀{tm:Tm},ni tm=true->ni (prune ks tm)=true
 |[],_=>rfl
 |(j,v)::r,h=>by
  rw [ni,Bool.and_eq_true] at h;rw [prune];split
  ·rw [ni,h.1,gV ks h.2];rfl
  ·exact gV ks h.2
theorem bg:∀{b:List (List AV)},aV b=true↔∀c ∈ b,dQ c=true
 |[]=>by simp [aV]
 |c::b=>by simp [aV,bg (b:=b)]
theorem ko {a b:List (List AV)} (ha:aV a=true) (hb:aV b=true):aV (a++b)=true:=bg.2 fun v hv=>(List.mem_append.1 hv).elim (bg.1 ha v) (bg.1 hb v)
theorem Vq {b:List (List AV)} {i:Nat} {c:List AV} (hb:aV b=true) (hc:dQ c=true):aV (b.set i c)=true:=bg.2 fun v hv=>by
 rcases List.mem_or_eq_of_mem_set hv with h|h
 ·exact bg.1 hb v h
 ·rw [h];exact hc
theorem qO:∀{ids:List Nat} {cs b:List (List AV)},aV b=true->aV cs=true->aV (aB b ids cs)=true
 |[],cs,b,hb,_=>by rw [aB];exact hb;intros;contradiction
 |i::r,[],b,hb,_=>by rw [aB];exact hb;intros;contradiction
 |i::r,c::cs,b,hb,hc=>by rw [aV,Bool.and_eq_true] at hc;rw [aB];exact qO (Vq hb hc.1) hc.2
theorem lU:∀{ids:List Nat} {b cs:List (List AV)},aV b=true->bn b ids=some cs->aV cs=true
 |[],b,cs,_,h=>by cases h;rfl
 |i::r,b,cs,hb,h=>by
  rw [bn] at h;split at h
  ·rename_i c cs' h1 h2;cases h;rw [aV,bg.1 hb c (List.mem_of_getElem? h1),lU hb h2];rfl
  ·cases h
theorem Qt {b:List (List AV)} (hb:aV b=true) (i:Nat):gZ (b.getD i [])=true:=by
 rw [List.getD_eq_getElem?_getD];cases h:b[i]? with
 |none=>rfl
 |some c=>exact sW (bg.1 hb c (List.mem_of_getElem? h))
theorem uP {l:List AV} (h:gZ l=true):gZ (l.map AV.bY)=true:=iP.2 fun v hv=>by obtain ⟨u,hu,rfl⟩:=List.mem_map.1 hv;exact lK (iP.1 h u hu)
def Cv:Nat->List (List AV)->List Nat->List Nat->List Nat
 |0,_,_,seen=>seen
 |_+1,_,[],seen=>seen
 |n+1,bx,i::r,seen=>
  match mem i seen with
  |true=>Cv n bx r seen
  |false=>Cv n bx (bW (bx.getD i [])++r) (seen++[i])
theorem yx {bx:List (List AV)} (hb:aV bx=true):∀(n:Nat) (todo seen:List Nat),reach n bx todo seen=Cv n bx todo seen
 |0,_,_=>rfl
 |n+1,[],_=>rfl
 |n+1,i::r,seen=>by rw [reach,Cv,kJ (Qt hb i),yx hb n,yx hb n];cases mem i seen<;>rfl
def Ir (ρ:Operand->AV) (bx:List (List AV)) (op:Op):List Nat:=
 match op with
 |.load _ a=>qL (ρ a)
 |.store _ a _=>qL (ρ a)
 |.call c=>
  match c.callee with
  |.value f=>Cv 1000000 bx (iY (ρ f)++bW (c.args.toList.map ρ)) []
  |_=>[]
 |_=>[]
theorem yg {ρ:Operand->AV} {bx:List (List AV)} (hρ:∀x,wv (ρ x)=true) (hb:aV bx=true) (op:Op):dS ρ bx op=Ir ρ bx op:=by
 cases op<;>first|rfl|skip
 rename_i c;show (match c.callee with|.value f=>reach 1000000 bx (AV.ids (ρ f)++AV.aN (c.args.toList.map ρ)) []|_=>[])=(match c.callee with|.value f=>Cv 1000000 bx (iY (ρ f)++bW (c.args.toList.map ρ)) []|_=>[]);cases c.callee<;>first|rfl|skip
 rename_i f;show reach 1000000 bx (AV.ids (ρ f)++AV.aN (c.args.toList.map ρ)) []=Cv 1000000 bx (iY (ρ f)++bW (c.args.toList.map ρ)) [];rw [uf (hρ f),kJ (iP.2 fun v hv=>by obtain ⟨u,-,rfl⟩:=List.mem_map.1 hv;exact hρ u),yx hb]
theorem oD {tm:Tm} (h:ni tm=true):∀(x:Operand),wv (val tm x)=true
 |.tmp t=>pG t h
 |.const v=>by show wv (TZ v)=true;unfold TZ;split<;>rfl
 |.func f=>rfl
 |.global _=>rfl
abbrev aC:=List AV->List (List AV)->(AV->List (List AV)->Prop)->Prop
abbrev Sp:=List (Nat×aC)
mutual
def can:AV->AV
 |.nil=> .sl 0 []
 |.agg l=> .agg (oO l)
 |.bX l=> .bX (oO l)
 |.fn f l=> .fn f (oO l)
 |.bool b=> .bool b
 |.int k n=> .int k n
 |.str s=> .str s
 |.ptr i o=> .ptr i o
 |.sl n l=> .sl n l
 |.row e z n l=> .row e z n l
 |.el l=> .el l
 |.nz k=> .nz k
 |.nP k=> .nP k
 |.low k d m=> .low k d m
 |.bU i e z n=> .bU i e z n
 |.bad=> .bad
def oO:List AV->List AV
 |[]=>[]
 |v::l=>can v::oO l
end
def Is (sp:Sp) (cal:xR):Prop:=∀f c,assoc sp f=some c->∀args bx K0,gZ args=true->c (oO args) bx K0->∃r bx',cal f args bx=some (r,bx')∧wv r=true∧aV bx'=true∧∀K,c (oO args) bx K->K r bx'
def yZ (v:AV) (K:AV->Prop):Prop:=
 match v with
 |.row _ _ n l=>K (.sl n l)
 |.bool b=>K (.bool b)
 |.int k n=>K (.int k n)
 |.str s=>K (.str s)
 |.ptr i o=>K (.ptr i o)
 |.nil=>K .nil
 |.sl n l=>K (.sl n l)
 |.el l=>K (.el l)
 |.agg l=>K (.agg l)
 |.bX l=>K (.bX l)
 |.fn f c=>K (.fn f c)
 |.nz k=>K (.nz k)
 |.nP k=>K (.nP k)
 |.low k d m=>K (.low k d m)
 |.bU i e z n=>K (.bU i e z n)
 |.bad=>K .bad
theorem lJ (v:AV) (K:AV->Prop):yZ v K=K v.bY:=by cases v<;>rfl
mutual
def Em:AV->(AV->Prop)->Prop
 |.agg l,K=>rf l fun l=>K (.agg l)
 |.bX l,K=>rf l fun l=>K (.bX l)
 |.fn f l,K=>rf l fun l=>K (.fn f l)
 |.bool b,K=>K (.bool b)
 |.int k n,K=>K (.int k n)
 |.str s,K=>K (.str s)
 |.ptr i o,K=>K (.ptr i o)
 |.nil,K=>K .nil
 |.sl n l,K=>K (.sl n l)
 |.row e z n l,K=>K (.row e z n l)
 |.el l,K=>K (.el l)
 |.nz k,K=>K (.nz k)
 |.nP k,K=>K (.nP k)
 |.low k d m,K=>K (.low k d m)
 |.bU i e z n,K=>K (.bU i e z n)
 |.bad,K=>K .bad
def rf:List AV->(List AV->Prop)->Prop
 |[],K=>K []
 |v::l,K=>Em v fun v=>rf l fun l=>K (v::l)
end
mutual
theorem wE:∀(v:AV) (K:AV->Prop),Em v K=K v
 |.agg l,K=>by rw [Em,jK]
 |.bX l,K=>by rw [Em,jK]
 |.fn f l,K=>by rw [Em,jK]
 |.ptr ..,_=>rfl
 |.bU ..,_=>rfl
 |.bool _,_=>rfl
 |.int _ _,_=>rfl
 |.str _,_=>rfl
 |.nil,_=>rfl
 |.nz _,_=>rfl
 |.nP _,_=>rfl
 |.low _ _ _,_=>rfl
 |.bad,_=>rfl
 |.sl n l,_=>rfl
 |.row e z n l,_=>rfl
 |.el l,_=>rfl
theorem jK:∀(l:List AV) (K:List AV->Prop),rf l K=K l
 |[],_=>rfl
 |v::l,K=>by rw [rf,wE,jK]
end
def AJ:List (List AV)->(List (List AV)->Prop)->Prop
 |[],K=>K []
 |v::l,K=>rf v fun v=>AJ l fun l=>K (v::l)
theorem qy:∀(l:List (List AV)) (K:List (List AV)->Prop),AJ l K=K l
 |[],_=>rfl
 |v::l,K=>by rw [AJ,jK,qy]
def O5:Tm->Nat->AV->(Tm->Prop)->Prop
 |[],n,v,K=>K [(n,v)]
 |(j,u)::r,n,v,K=>
  match Nat.ble n j with
  |false=>K ((n,v)::(j,u)::r)
  |true=>
   match Nat.beq n j with
   |true=>K ((n,v)::r)
   |false=>O5 r n v fun r=>K ((j,u)::r)
theorem Gd (n:Nat) (v:AV):∀(tm:Tm) (K:Tm->Prop),O5 tm n v K=K (put tm n v)
 |[],_=>rfl
 |(j,u)::r,K=>by
  rw [O5,put];cases Nat.ble n j
  ·rfl
  ·cases Nat.beq n j
   ·exact Gd n v r _
   ·rfl
def JS:List Nat->Tm->(Tm->Prop)->Prop
 |[],tm,K=>K tm
 |t::r,tm,K=>
  match get tm t with
  |.row _ _ n l=>O5 tm t (.sl n l) fun tm=>JS r tm K
  |_=>JS r tm K
theorem wC:∀(ks:List Nat) (tm:Tm) (K:Tm->Prop),JS ks tm K=K (eZ tm ks)
 |[],_,_=>rfl
 |t::r,tm,K=>by
  rw [JS,eZ];cases get tm t<;>first
   |exact wC r _ _
   |(show O5 _ _ _ _=_;rw [Gd];exact wC r _ _)
def Gf (ks:List Nat):Tm->(Tm->Prop)->Prop
 |[],K=>K []
 |(k,v)::r,K=>
  match mem k ks with
  |true=>Gf ks r fun r=>K ((k,v)::r)
  |false=>Gf ks r K
theorem wh (ks:List Nat):∀(tm:Tm) (K:Tm->Prop),Gf ks tm K=K (prune ks tm)
 |[],_=>rfl
 |(k,v)::r,K=>by
  rw [Gf,prune];cases h:mem k ks
  ·rw [if_neg (by simp)];exact wh ks r K
  ·rw [if_pos rfl];exact wh ks r _
def fO:List AV->Nat->List AV->(List AV->Prop)->Prop
 |l,0,[],K=>K l
 |x::l,0,v::vs,K=>fO l 0 vs fun l=>K (v::l)
 |x::l,o+1,vs,K=>fO l o vs fun l=>K (x::l)
 |[],_,_,_=>False
theorem pX:∀{l:List AV} {o:Nat} {vs:List AV} {K:List AV->Prop},fO l o vs K->o+vs.length<=l.length∧K (setAt l o vs)
 |[],0,[],K,h=>⟨Nat.le_refl _,h⟩
 |x::l,0,[],K,h=>⟨by simp,h⟩
 |x::l,0,v::vs,K,h=>by obtain ⟨h1,h2⟩:=pX (l:=l) (o:=0) (vs:=vs) h;exact ⟨by simp only [List.length_cons];omega,h2⟩
 |x::l,o+1,[],K,h=>by obtain ⟨h1,h2⟩:=pX (l:=l) (o:=o) (vs:=[]) h;exact ⟨by simp only [lL] at*;omega,h2⟩
 |x::l,o+1,v::vs,K,h=>by obtain ⟨h1,h2⟩:=pX (l:=l) (o:=o) (vs:=v::vs) h;exact ⟨by simp only [List.length_cons] at*;omega,h2⟩
 |[],0,v::vs,K,h=>h.elim
 |[],o+1,[],K,h=>h.elim
 |[],o+1,v::vs,K,h=>h.elim
def yh:Nat->List AV->(List AV->Prop)->Prop
 |0,_,K=>K []
 |n+1,v::l,K=>yZ v fun v=>yh n l fun l=>K (v::l)
 |_+1,[],_=>False
theorem Bj:∀{n:Nat} {l:List AV} {K:List AV->Prop},yh n l K->n<=l.length∧K ((l.take n).map AV.bY)
 |0,_,_,h=>⟨Nat.zero_le _,h⟩
 |n+1,v::l,K,h=>by rw [yh,lJ] at h;obtain ⟨h1,h2⟩:=Bj h;exact ⟨by simp only [List.length_cons];omega,h2⟩
 |n+1,[],_,h=>h.elim
def sj:List AV->Nat->(AV->Prop)->Prop
 |x::_,0,K=>K x
 |_::l,o+1,K=>sj l o K
 |[],_,_=>False
theorem yG:∀{l:List AV} {o:Nat} {K:AV->Prop},sj l o K->∃v,l[o]?=some v∧K v
 |x::_,0,K,h=>⟨x,rfl,h⟩
 |_::l,o+1,K,h=>by obtain ⟨v,h1,h2⟩:=yG (l:=l) (o:=o) h;exact ⟨v,by simpa using h1,h2⟩
 |[],0,_,h=>h.elim
 |[],_+1,_,h=>h.elim
def XB:List AV->List AV->(List AV->Prop)->Prop
 |[],m,K=>K m
 |x::l,m,K=>XB l m fun l=>K (x::l)
theorem Oj (m:List AV):∀(l:List AV) (K:List AV->Prop),XB l m K=K (l++m)
 |[],_=>rfl
 |x::l,K=>by rw [XB,Oj m l];rfl
def Xk (iG:List (Nat×Nat×Bool)):List AV->List (Nat×AV)->(List AV->Prop)->Prop
 |cs,[],K=>K cs
 |cs,(i,v)::r,K=>
  match iG[i]? with
  |none=>False
  |some (o,n,_)=>yZ v fun v=>
   match Nat.beq (cells v).length n with
   |true=>fO cs o (cells v) fun cs=>Xk iG cs r K
   |false=>False
def VW:Nat->List (Nat×AV)->(List AV->Prop)->Prop
 |_,[],K=>K []
 |k,(i,v)::r,K=>
  match Nat.beq i k with
  |true=>VW (k+1) r fun l=>yZ v fun v=>XB (cells v) l K
  |false=>False
def I4:List (List AV)->Nat->List AV->(List (List AV)->Prop)->Prop
 |[],_,_,K=>K []
 |_::b,0,c,K=>K (c::b)
 |x::b,i+1,c,K=>I4 b i c fun b=>K (x::b)
theorem IZ (c:List AV):∀(b:List (List AV)) (i:Nat) (K:List (List AV)->Prop),I4 b i c K=K (b.set i c)
 |[],_,_=>by rw [I4];rfl
 |_::b,0,K=>rfl
 |x::b,i+1,K=>by rw [I4,IZ c b i];rfl
def Nf:List Nat->List (List AV)->List (List AV)->(List (List AV)->Prop)->Prop
 |i::r,c::cs,b,K=>I4 b i c fun b=>Nf r cs b K
 |_,_,b,K=>K b
theorem IW:∀(ids:List Nat) (cs b:List (List AV)) (K:List (List AV)->Prop),Nf ids cs b K=K (aB b ids cs)
 |[],cs,b,K=>by cases cs<;>rfl
 |i::r,[],b,K=>rfl
 |i::r,c::cs,b,K=>by rw [Nf,IZ,IW r,aB]
def Ox:List (List AV)->List (List AV)->(List (List AV)->Prop)->Prop
 |[],m,K=>K m
 |x::b,m,K=>Ox b m fun b=>K (x::b)
theorem Kj (m:List (List AV)):∀(b:List (List AV)) (K:List (List AV)->Prop),Ox b m K=K (b++m)
 |[],_=>rfl
 |x::b,K=>by rw [Ox,Kj m b];rfl
def nwK (b nw:List (List AV)) (K:List (List AV)->Prop):Prop:=
 match nw with
 |[]=>K b
 |nw=>Ox b nw K
theorem aaX (b nw:List (List AV)) (K:List (List AV)->Prop):nwK b nw K=K (b++nw):=by
 cases nw with
 |nil=>rw [nwK,List.append_nil]
 |cons x r=>exact Kj _ b K
def wX (tm:Tm) (d:Option Nat) (v:AV) (K:Tm->Prop):Prop:=
 match d with
 |some d=>O5 tm d v K
 |none=>K tm
theorem nW (tm:Tm) (d:Option Nat) (v:AV) (K:Tm->Prop):wX tm d v K=K (dW tm d v):=by
 cases d with
 |none=>rfl
 |some d=>exact Gd d v tm K
def ZV (op:BinOp) (k:IntKind) (a b:Int) (K:AV->Prop):Prop:=
 match op with
 |.add=>
  match k with
  |.i64=>(-9223372036854775808<=a+b∧a+b<=9223372036854775807)∧Go (K (.int .i64 (a+b)))
  |k=>K (.int k (k.wrap (a+b)))
 |.sub=>
  match k with
  |.i64=>(-9223372036854775808<=a-b∧a-b<=9223372036854775807)∧Go (K (.int .i64 (a-b)))
  |k=>K (.int k (k.wrap (a-b)))
 |.mul=>
  match k with
  |.i64=>(-9223372036854775808<=a*b∧a*b<=9223372036854775807)∧Go (K (.int .i64 (a*b)))
  |k=>K (.int k (k.wrap (a*b)))
 |.rem=>b≠0∧Go (K (.int k (a.tmod b)))
 |.quo=>b≠0∧Go (K (.int k (k.wrap (a.tdiv b))))
 |.eql=>K (.bool (decide (a=b)))
 |.neq=>K (.bool (decide (a≠b)))
 |.lss=>K (.bool (decide (a<b)))
 |.leq=>K (.bool (decide (a<=b)))
 |.gtr=>K (.bool (decide (b<a)))
 |.geq=>K (.bool (decide (b<=a)))
 |_=>False
def ZX (op:BinOp) (t:Nat) (x y:AV) (K:AV->Prop):Prop:=
 match x with
 |.int k a=>
  match y with
  |.int k' b=>
   match decide (k=k') with
   |true=>ZV op k a b K
   |false=>False
  |_=>False
 |.str a=>
  match y with
  |.str b=>
   match op with
   |.add=>a.size+b.size<=1000000000∧Go (K (.str (a++b)))
   |.eql=>K (.bool (decide (a=b)))
   |.neq=>K (.bool (!decide (a=b)))
   |_=>False
  |_=>False
 |.nz k=>
  match y with
  |.int k' b=>
   match decide (k=k') with
   |true=>
    match op with
    |.eql=>b=0∧Go (K (.bool false))
    |.neq=>b=0∧Go (K (.bool true))
    |_=>False
   |false=>False
  |_=>False
 |.bool a=>
  match y with
  |.bool b=>
   match Nat.beq t 4 with
   |true=>
    match op with
    |.eql=>K (.bool (decide (a=b)))
    |.neq=>K (.bool (!decide (a=b)))
    |_=>False
   |false=>False
  |_=>False
 |.agg l=>
  match y with
  |.agg l'=>
   match Nat.beq t 56 with
   |true=>
    match l with
    |[.str a,.int .i64 n]=>
     match l' with
     |[.str b,.int .i64 m]=>
      match op with
      |.eql=>K (.bool (decide (a=b∧n=m)))
      |.neq=>K (.bool (!decide (a=b∧n=m)))
      |_=>False
     |_=>False
    |_=>False
   |false=>False
  |_=>False
 |_=>False
theorem wrap64 {e:Int} (h:-9223372036854775808<=e∧e<=9223372036854775807):IntKind.i64.wrap e=e:=by rw [IntKind.wrap_i64];omega
theorem Vm {op:BinOp} {k:IntKind} {a b:Int} {K:AV->Prop} (h:ZV op k a b K):∃v,ab9 op k a b=some (v,true)∧wv v=true∧K v:=by
 cases op<;>unfold ZV at h<;>simp only [] at h<;>first|exact h.elim|skip
 all_goals first
  |exact ⟨_,rfl,rfl,h⟩
  |(refine ⟨_,by show some (_,decide _)=_;rw [decide_eq_true h.1],rfl,h.2⟩;done)
  |(refine ⟨_,by show some (AV.bool (_==_),_)=_;rw [show (a==b)=decide (a=b) from rfl],rfl,h⟩;done)
  |(cases k<;>simp only [] at h<;>first
    |exact ⟨_,rfl,rfl,h⟩
    |(refine ⟨_,rfl,rfl,?_⟩;rw [wrap64 h.1];exact h.2))
  |skip
 ·refine ⟨_,rfl,rfl,?_⟩;rw [show (a !=b)=decide (a≠b) from by rw [bne,show (a==b)=decide (a=b) from rfl];simp];exact h
theorem Vp {op:BinOp} {t:Nat} {x y:AV} {bs:List (List AV)} {K:AV->Prop} (h:ZX op t x y K):∃v,G5 op t x y bs=some ⟨v,bs,[],true⟩∧wv v=true∧K v:=by
 have hb:∀v,bin op x y=some (v,true)->G5 op t x y bs=some ⟨v,bs,[],true⟩:=fun v h=>by unfold G5;rw [h];rfl
 have hx:∀b,bin op x y=none->PR t x y=some b->(op=.eql->G5 op t x y bs=some ⟨.bool b,bs,[],true⟩)∧(op=.neq->G5 op t x y bs=some ⟨.bool !b,bs,[],true⟩):=fun b h1 h2=>by unfold G5;rw [h1];simp only [];rw [h2];exact ⟨fun e=>by subst e;rfl,fun e=>by subst e;rfl⟩
 unfold ZX at h;split at h
 ·rename_i k a;split at h
  ·rename_i k' b;split at h
   ·rename_i hk;have hk:=of_decide_eq_true hk;obtain ⟨v,h1,h2⟩:=Vm h;exact ⟨v,hb _ (by rw [bin,if_pos hk];exact h1),h2⟩
   ·exact h.elim
  ·exact h.elim
 ·rename_i a;split at h
  ·rename_i b;split at h
   ·exact ⟨_,hb _ (by show some (_,decide _)=_;rw [decide_eq_true h.1]),rfl,h.2⟩
   ·exact ⟨_,hb _ rfl,rfl,h⟩
   ·exact ⟨_,hb _ rfl,rfl,h⟩
   ·exact h.elim
  ·exact h.elim
 ·split at h
  ·split at h
   ·rename_i hk;have hk:=of_decide_eq_true hk;split at h
    ·exact ⟨_,hb _ (by rw [bin,if_pos ⟨hk,h.1⟩];rfl),rfl,h.2⟩
    ·exact ⟨_,hb _ (by rw [bin,if_pos ⟨hk,h.1⟩];rfl),rfl,h.2⟩
    ·exact h.elim
   ·exact h.elim
  ·exact h.elim
 ·rename_i a;split at h
  ·rename_i b;split at h
   ·rename_i ht;have ht:=Nat.eq_of_beq_eq_true ht;have:=hx (decide (a=b)) rfl (by rw [PR,if_pos ht]);split at h
    ·exact ⟨_,this.1 rfl,rfl,h⟩
    ·exact ⟨_,this.2 rfl,rfl,h⟩
    ·exact h.elim
   ·exact h.elim
  ·exact h.elim
 ·rename_i l;split at h
  ·rename_i l';split at h
   ·rename_i ht;have ht:=Nat.eq_of_beq_eq_true ht;split at h
    ·rename_i a n;split at h
     ·rename_i b m;have:=hx (decide (a=b∧n=m)) rfl (by rw [PR,if_pos ht]);split at h
      ·exact ⟨_,this.1 rfl,rfl,h⟩
      ·exact ⟨_,this.2 rfl,rfl,h⟩
      ·exact h.elim
     ·exact h.elim
    ·exact h.elim
   ·exact h.elim
  ·exact h.elim
 ·exact h.elim
abbrev K3:=AV->List (List AV)->List (List AV)->Prop
def Qp (d:TD) (ad:Bool) (a:AV) (bs:List (List AV)) (K:K3):Prop:=
 match a with
 |.ptr _ o=>
  match bs with
  |[c]=>
   match d.agg with
   |true=>yh d.size (c.drop o) fun l=>K (.agg l) bs []
   |false=>sj c o fun v=>
    match ad with
    |true=>yZ v fun u=>fO c o [u] fun c=>K v [c] []
    |false=>yZ v fun v=>K v bs []
  |_=>False
 |.el l=>
  match d.agg with
  |true=>
   match d with
   |⟨z,_,_,_,_,_⟩=>∃x r,l=x++r∧x.length=z∧Go (K (.agg x) bs [])
  |false=>∃v r,l=v::r∧Go (K v bs [])
 |_=>False
theorem Qo {d:TD} {ad:Bool} {a:AV} {bs:List (List AV)} {K:K3} (ha:wv a=true) (hb:aV bs=true) (hz:0<d.size) (h:Qp d ad a bs K):∃out,ou d ad a bs=some out∧out.ok=true∧wv out.v=true∧aV out.bs=true∧aV out.nw=true∧K out.v out.bs out.nw:=by
 unfold Qp at h;split at h
 ·rename_i i o;split at h
  ·rename_i c;have hc:dQ c=true:=by rw [aV,Bool.and_eq_true] at hb;exact hb.1
   split at h
   ·rename_i hA;obtain ⟨h1,h2⟩:=Bj h;rw [List.length_drop] at h1;refine ⟨⟨.agg (((c.drop o).take d.size).map AV.bY),[c],[],true⟩,?_,rfl,FZ (Ie _ (Ig _ hc)),hb,rfl,h2⟩;show (if d.agg=true then _ else _)=_;rw [if_pos hA,fC,decide_eq_true oM]
   ·rename_i hA;obtain ⟨v,h1,h2⟩:=yG h;obtain ⟨w1,w2⟩:=dB.1 hc v (List.mem_of_getElem? h1);cases ad with
    |true=>
     simp only [lJ] at h2;obtain ⟨h3,h4⟩:=pX h2;refine ⟨⟨v,[setAt c o [v.bY]],[],true⟩,?_,rfl,w2,?_,rfl,h4⟩
     ·show (if d.agg=true then _ else _)=_;rw [if_neg (by rw [hA];simp),h1];rfl
     ·rw [aV,Be hc (by rw [dQ,N9,w1,lK w2,dQ];rfl),aV];rfl
    |false=>
     simp only [lJ] at h2;refine ⟨⟨v.bY,[c],[],true⟩,?_,rfl,lK w2,hb,rfl,h2⟩;show (if d.agg=true then _ else _)=_;rw [if_neg (by rw [hA];simp),h1];rfl
  ·exact h.elim
 ·rename_i l;have hl:jR l=true:=ha;split at h
  ·rename_i hA;have h:∃x r,l=x++r∧x.length=d.size∧Go (K (.agg x) bs []):=by cases d;exact h
   obtain ⟨x,r,rfl,h1,h2⟩:=h;refine ⟨⟨.agg x,bs,[],true⟩,?_,rfl,?_,hb,rfl,h2⟩
   ·show (if d.agg=true then _ else _)=_;rw [if_pos hA,fC,←h1,List.take_left,decide_eq_true (by simp)]
   ·exact iB.2 fun v hv=>(lD.1 hl v (List.mem_append_left _ hv)).2
  ·rename_i hA;obtain ⟨v,r,rfl,h2⟩:=h;refine ⟨⟨v,bs,[],true⟩,?_,rfl,(lD.1 hl v (by simp)).2.2.2,hb,rfl,h2⟩;show (if d.agg=true then _ else _)=_;rw [if_neg (by rw [hA];simp)];rfl
 ·exact h.elim
theorem zh {a b:Nat}:(Nat.beq a b=true)=(a=b):=propext ⟨Nat.eq_of_beq_eq_true,fun h=>by rw [h];exact qF b⟩
theorem UD {a b:Nat}:(Nat.blt a b=true)=(a<b):=Nat.ble_eq
theorem Nk:∀{l:List AV} {j:Nat} {v:AV},AV.wN l=true->l[j]?=some v->v.pf=true
 |[],j,v,_,h=>by simp at h
 |x::l,j,v,hp,h=>by
  rw [AV.wN,Bool.and_eq_true] at hp;cases j with
  |zero=>simp at h;rw [←h];exact hp.1
  |succ j=>exact Nk hp.2 (by simpa using h)
abbrev pE (x:Option Out) (K:K3):Prop:=∃out,x=some out∧out.ok=true∧wv out.v=true∧aV out.bs=true∧aV out.nw=true∧K out.v out.bs out.nw
def KE (d:TD) (a x:AV) (bs:List (List AV)) (K:K3):Prop:=
 match a with
 |.ptr _ o=>
  match bs with
  |[c]=>
   match Nat.beq (cells x).length d.size && (d.agg||x.one) with
   |true=>fO c o (cells x) fun c=>K .bad [c] []
   |false=>False
  |_=>False
 |_=>False
theorem tT {x:AV} (hx:wv x=true) (h:x.one=true∨∃l,x=.agg l):dI (cells x)=true:=by
 cases x with
 |agg l=>exact yf hx
 |_=>
  rcases h with h|⟨l,h⟩
  ·show (AV.one _ && dI [])=true;rw [h];rfl
  ·cases h
theorem AO {v:AV} (h6:v.flat=true):AV.ak (cells v)=true:=by
 cases v<;>first|exact h6|(show (AV.flat _ && AV.ak [])=true;rw [h6];rfl)
theorem OJ {T:jL} {t:Nat} {d:TD} {a x:AV} {bs:List (List AV)} {K:K3} (hx:wv x=true) (hb:aV bs=true) (hz:1<d.size∨d.agg=false) (h:KE d a x bs K):pE (qD T t d a x bs) K:=by
 unfold KE at h;split at h
 ·rename_i i o;split at h
  ·rename_i c;have hc:dQ c=true:=by rw [aV,Bool.and_eq_true] at hb;exact hb.1
   split at h
   ·rename_i h1;rw [Bool.and_eq_true,zh] at h1;obtain ⟨h1,h2⟩:=h1;obtain ⟨h3,h4⟩:=pX h;have hag:d.agg=true->x.isRow=false:=by
     intro hA;cases x<;>first|rfl|skip
     rw [show (cells _).length=1 from rfl] at h1;rcases hz with hz|hz
     ·omega
     ·rw [hA] at hz;cases hz
    have ho:x.one=true∨∃l,x=.agg l:=by
     cases hA:d.agg with
     |false=>rw [hA] at h2;exact .inl h2
     |true=>
      rcases hz with hz|hz
      ·cases x with
       |agg l=>exact .inr ⟨l,rfl⟩
       |_=>rw [show (cells _).length=1 from rfl] at h1;omega
      ·rw [hA] at hz;cases hz
    have h5:=tT hx ho;refine ⟨⟨.bad,[setAt c o (cells x)],[],_⟩,rfl,?_,rfl,?_,rfl,h4⟩
    ·show (decide _ && decide _ && _)=true;rw [decide_eq_true h1,decide_eq_true oM];cases hA:d.agg with
     |false=>rw [hA] at h2;exact h2
     |true=>
      rw [if_pos rfl,h5];have:=uQ hx;rw [AV.top,hag hA,Bool.false_or] at this;rw [AO this];rfl
    ·rw [aV,Be hc (vN hx h5),aV];rfl
   ·exact h.elim
  ·exact h.elim
 ·exact h.elim
theorem NZ {iG:List (Nat×Nat×Bool)}:∀{ps:List (Nat×AV)} {cs:List AV} {K:List AV->Prop},(∀p ∈ ps,wv p.2=true∧p.2.bY=p.2∧(p.2.one=true∨∃l,p.2=.agg l))->dQ cs=true->AV.ak cs=true->Xk iG cs ps K->∃l,mH iG cs ps=some l∧dQ l=true∧AV.ak l=true∧K l
 |[],cs,K,_,hc,hf,h=>⟨cs,rfl,hc,hf,h⟩
 |(i,v)::r,cs,K,hp,hc,hf,h=>by
  obtain ⟨p1,p2,p3⟩:=hp (i,v) (by simp);rw [Xk] at h;rw [mH];cases ho:iG[i]? with
  |none=>rw [ho] at h;exact h.elim
  |some q=>
   obtain ⟨o,n,b⟩:=q;rw [ho] at h;simp only [lJ] at h;rw [show v.bY=v from p2] at h;split at h
   ·rename_i h1;rw [zh] at h1;obtain ⟨h3,h4⟩:=pX h;have h5:=tT p1 p3;have h6:v.flat=true:=by have:=lS p1;rw [show v.bY=v from p2] at this;exact this
    have h7:AV.ak (cells v)=true:=by
     cases v<;>first|exact h6|(show (AV.flat _ && AV.ak [])=true;rw [h6];rfl)
    simp only [];rw [if_pos ⟨h1,oM,h6,h5⟩];exact NZ (fun p hp'=>hp p (List.mem_cons_of_mem _ hp')) (Be hc (vN p1 h5)) (rq hf h7) h4
   ·exact h.elim
def okC:AV->Bool
 |.agg _=>true
 |v=>v.one
def RU:List (Nat×AV)->Bool
 |[]=>true
 |(_,v)::r=>okC v && RU r
theorem Lr {v:AV} (h:okC v=true):v.one=true∨∃l,v=.agg l:=by
 cases v<;>first|exact .inl h|exact .inr ⟨_,rfl⟩
theorem CF:∀{ps:List (Nat×AV)},RU ps=true->∀p ∈ ps,okC p.2=true
 |[],_,p,hp=>by cases hp
 |(i,v)::r,h,p,hp=>by
  rw [RU,Bool.and_eq_true] at h;rcases List.mem_cons.1 hp with rfl|hp
  ·exact h.1
  ·exact CF h.2 p hp
def KJ (d:TD) (ps:List (Nat×AV)) (bs:List (List AV)) (K:K3):Prop:=
 match d.agg && RU ps with
 |true=>Xk d.iG d.zero ps fun l=>K (.agg l) bs []
 |false=>False
theorem OP {d:TD} {ps:List (Nat×AV)} {bs:List (List AV)} {K:K3} (hp:∀p ∈ ps,wv p.2=true∧p.2.bY=p.2) (hb:aV bs=true) (hzc:dQ d.zero=true) (hzf:AV.ak d.zero=true) (h:KJ d ps bs K):pE (vH d ps bs) K:=by
 unfold KJ at h;split at h
 ·rename_i h1;rw [Bool.and_eq_true] at h1;obtain ⟨l,h2,h3,h4,h5⟩:=NZ (fun p hp'=>⟨(hp p hp').1,(hp p hp').2,Lr (CF h1.2 p hp')⟩) hzc hzf h;refine ⟨⟨.agg l,bs,[],true⟩,?_,rfl,?_,hb,rfl,h5⟩
  ·unfold vH;rw [h2];simp only [];rw [fC,h1.1,h4];rfl
  ·refine iB.2 fun v hv=>⟨?_,dB.1 h3 v hv⟩;obtain ⟨j,hj⟩:=List.getElem?_of_mem hv;exact eH h4 hj
 ·exact h.elim
def Wm (z:Nat):List (Nat×AV)->Bool
 |[]=>true
 |(_,v)::r=>Nat.beq (cells v).length z && Wm z r
theorem CU {z:Nat}:∀{ps:List (Nat×AV)},Wm z ps=true->∀p ∈ ps,(cells p.2).length=z
 |[],_,p,hp=>by cases hp
 |(i,v)::r,h,p,hp=>by
  rw [Wm,Bool.and_eq_true,zh] at h;rcases List.mem_cons.1 hp with rfl|hp
  ·exact h.1
  ·exact CU h.2 p hp
theorem Ni {z:Nat}:∀{ps:List (Nat×AV)} {k:Nat} {K:List AV->Prop},(∀p ∈ ps,wv p.2=true∧p.2.bY=p.2∧okC p.2=true∧(cells p.2).length=z)->VW k ps K->∃l,parts k ps=some l∧l.length=ps.length*z∧dI l=true∧AV.ak l=true∧qI l=true∧K l
 |[],k,K,_,h=>⟨[],rfl,by simp,rfl,rfl,rfl,h⟩
 |(i,v)::r,k,K,hp,h=>by
  obtain ⟨p1,p2,p3,p4⟩:=hp (i,v) (by simp);have p2:v.bY=v:=p2;rw [VW] at h;split at h
  ·rename_i hk;rw [zh] at hk;obtain ⟨l,h1,h2,h3,h4,h5,h6⟩:=Ni (fun p hp'=>hp p (List.mem_cons_of_mem _ hp')) h;simp only [lJ,Oj] at h6;rw [p2] at h6;have h7:=tT p1 (Lr p3);have h8:v.flat=true:=by have:=lS p1;rw [p2] at this;exact this
   have h9:=AO h8;have h10:qI (cells v)=true:=iB.2 fun u hu=>by obtain ⟨j,hj⟩:=List.getElem?_of_mem hu;exact ⟨eH h9 hj,dB.1 (vN p1 h7) u hu⟩
   refine ⟨cells v++l,?_,?_,?_,dX h9 h4,BU h10 h5,h6⟩
   ·rw [parts,if_pos hk,h1];rfl
   ·rw [List.length_append,h2,show (cells v).length=z from p4,List.length_cons,Nat.add_mul,Nat.one_mul,Nat.add_comm]
   ·exact yf (BU h10 h5)
  ·exact h.elim
def uO (mt:Bool) (L e:Nat) (d:TD) (len:Nat) (ps:List (Nat×AV)) (bs:List (List AV)) (K:K3):Prop:=
 match Nat.blt 0 d.size && Nat.beq ps.length len && Nat.ble (len*d.size) 1000000 && RU ps && Wm d.size ps with
 |true=>VW 0 ps fun l=>
  match mt with
  |true=>K (.bU L e d.size len) bs [l]
  |false=>AV.wN l=true∧Go (K (.row e d.size len l) bs [])
 |false=>False
theorem BR {mt:Bool} {L e:Nat} {d:TD} {len:Nat} {ps:List (Nat×AV)} {bs:List (List AV)} {K:K3} (hp:∀p ∈ ps,wv p.2=true∧p.2.bY=p.2) (hb:aV bs=true) (h:uO mt L e d len ps bs K):pE (fq mt L e d len ps bs) K:=by
 unfold uO at h;split at h
 ·rename_i h1;simp only [Bool.and_eq_true,zh,Nat.ble_eq,UD] at h1;obtain ⟨⟨⟨⟨a1,a2⟩,a3⟩,a4⟩,a5⟩:=h1;obtain ⟨l,h2,h3,h4,h5,h6,h7⟩:=Ni (fun p hp'=>⟨(hp p hp').1,(hp p hp').2,CF a4 p hp',CU a5 p hp'⟩) h;have hall:(ps.all fun p=>decide ((cells p.2).length=d.size))=true:=by rw [List.all_eq_true];exact fun p hp'=>decide_eq_true (CU a5 p hp')
  have hok:(decide (0<d.size) && decide (ps.length=len) && decide (l.length=len*d.size) && decide (len*d.size<=1000000) && dI l && AV.ak l && ps.all fun p=>decide ((cells p.2).length=d.size))=true:=by rw [decide_eq_true a1,decide_eq_true a2,decide_eq_true (by rw [h3,a2]),decide_eq_true a3,h4,h5,hall];rfl
  cases mt with
  |true=>
   refine ⟨⟨.bU L e d.size len,bs,[l],true⟩,?_,rfl,rfl,hb,?_,h7⟩
   ·unfold fq;rw [h2];simp only [];rw [hok];rfl
   ·rw [aV,bQ h6,aV];rfl
  |false=>
   refine ⟨⟨.row e d.size len l,bs,[],true⟩,?_,rfl,?_,hb,rfl,h7.2⟩
   ·unfold fq;rw [h2];simp only [];rw [hok];rfl
   ·refine lD.2 fun v hv=>⟨?_,iB.1 h6 v hv⟩;obtain ⟨j,hj⟩:=List.getElem?_of_mem hv;exact Nk h7.1 hj
 ·exact h.elim
def KF (T:jL) (t:Nat) (x:AV) (lo hi:Option AV) (bs:List (List AV)) (K:K3):Prop:=
 match x with
 |.str s=>
  match lo.getD (.int .i64 0) with
  |.int _ a=>
   match hi.getD (.int .i64 s.size) with
   |.int _ b=>
    match Nat.beq t 9 with
    |true=>(0<=a∧a<=b∧b<=s.size)∧Go (K (.str (s.extract a.toNat b.toNat)) bs [])
    |false=>False
   |_=>False
  |_=>False
 |v=>
  match vC T t with
  |none=>False
  |some (_,⟨z,_,_,_,_,_⟩)=>
   match elems v with
   |none=>False
   |some (n,l)=>
    match lo.getD (.int .i64 0) with
    |.int _ a=>
     match hi.getD (.int .i64 n) with
     |.int _ b=>(0<=a∧a<=b∧b<=n)∧Go (K (.sl (b.toNat-a.toNat) ((l.drop (a.toNat*z)).take ((b.toNat-a.toNat)*z))) bs [])
     |_=>False
    |_=>False
theorem Ac {v:AV} {n:Nat} {l:List AV} (hv:wv v=true) (h:elems v=some (n,l)):jR l=true:=by
 unfold elems at h;split at h<;>cases h<;>first|rfl|exact hv
theorem OL {T:jL} {t:Nat} {x:AV} {lo hi:Option AV} {bs:List (List AV)} {K:K3} (hx:wv x=true) (hb:aV bs=true) (h:KF T t x lo hi bs K):pE (Dy T t x lo hi bs) K:=by
 unfold KF at h;unfold Dy;split at h
 ·rename_i s;simp only [];split at h
  ·rename_i k a ha;rw [ha];simp only [];split at h
   ·rename_i k' b hb';rw [hb'];simp only [];split at h
    ·rename_i ht;rw [zh] at ht;obtain ⟨⟨h1,h2,h3⟩,h4⟩:=h;refine ⟨⟨_,bs,[],true⟩,?_,rfl,rfl,hb,rfl,h4⟩;rw [fC,decide_eq_true h1,decide_eq_true h2,decide_eq_true h3,decide_eq_true ht];rfl
    ·exact h.elim
   ·exact h.elim
  ·exact h.elim
 ·rename_i hns;split at h
  ·exact h.elim
  rename_i e z0 z1 z2 z3 z4 z5 hd;obtain ⟨d,hdd⟩:∃d:TD,d=⟨z0,z1,z2,z3,z4,z5⟩:=⟨_,rfl⟩;rw [←hdd] at hd;have hz0:z0=d.size:=by rw [hdd]
  subst hz0;split at h
  ·exact h.elim
  rename_i n l hl;split at h
  ·rename_i k a ha;split at h
   ·rename_i k' b hb';obtain ⟨⟨h1,h2,h3⟩,h4⟩:=h;have hpl:wv (.sl (b.toNat-a.toNat) ((l.drop (a.toNat*d.size)).take ((b.toNat-a.toNat)*d.size)))=true:=Jm _ (Cx _ (Ac hx hl));refine ⟨⟨_,bs,[],true⟩,?_,rfl,hpl,hb,rfl,h4⟩;split
    ·rename_i s;exact absurd rfl (hns s)
    ·rw [hd];simp only [];rw [hl];simp only [];rw [ha];simp only [];rw [hb'];simp only [];rw [fC,decide_eq_true h1,decide_eq_true h2,decide_eq_true h3];rfl
   ·exact h.elim
  ·exact h.elim
def xg (q:Nat×Nat×Bool) (x:AV) (bs:List (List AV)) (K:K3):Prop:=
 match q with
 |(j,n,_)=>
  match Nat.blt 0 n with
  |true=>
   match x with
   |.ptr i o=>
    match j with
    |0=>K (.ptr i o) bs []
    |j=>K (.ptr i (o+j)) bs []
   |.el l=>j<l.length∧Go (K (.el (l.drop j)) bs [])
   |_=>False
  |false=>False
theorem Ea {q:Nat×Nat×Bool} {x:AV} {bs:List (List AV)} {K:K3} (hx:wv x=true) (hb:aV bs=true) (h:xg q x bs K):pE (jd q x bs) K:=by
 obtain ⟨j,n,b⟩:=q;unfold xg at h;simp only [] at h;split at h
 ·rename_i hq;rw [UD] at hq;split at h
  ·rename_i i o;have h:K (.ptr i (o+j)) bs []:=by
    cases j with
    |zero=>exact h
    |succ j=>exact h
   refine ⟨⟨_,bs,[],true⟩,?_,rfl,rfl,hb,rfl,h⟩;unfold jd;simp only [];rw [fC,decide_eq_true hq]
  ·rename_i l;have hx':wv (.el (l.drop j))=true:=Cx _ hx;refine ⟨⟨_,bs,[],true⟩,?_,rfl,hx',hb,rfl,h.2⟩;unfold jd;simp only [];rw [fC,decide_eq_true hq,decide_eq_true h.1];rfl
  ·exact h.elim
 ·exact h.elim
def KI (q:Nat×Nat×Bool) (x:AV) (bs:List (List AV)) (K:K3):Prop:=
 match x with
 |.agg l=>
  match q.2.2 with
  |true=>yh q.2.1 (l.drop q.1) fun c=>0<q.2.1∧Go (K (.agg c) bs [])
  |false=>sj l q.1 fun v=>K v bs []
 |_=>False
theorem Fu:∀{l:List AV},AV.ak l=true->l.map AV.bY=l
 |[],_=>rfl
 |v::l,h=>by rw [AV.ak,Bool.and_eq_true] at h;rw [List.map_cons,Fu h.2,Ew h.1]
where
 Ew {v:AV} (h:v.flat=true):v.bY=v:=by
  cases v<;>first|rfl|(rw [AV.flat] at h;cases h)
theorem OO {q:Nat×Nat×Bool} {x:AV} {bs:List (List AV)} {K:K3} (hx:wv x=true) (hb:aV bs=true) (h:KI q x bs K):pE (xK q x bs) K:=by
 unfold KI at h;split at h
 ·rename_i l;have hx:qI l=true:=hx;unfold xK;simp only [];split at h
  ·rename_i hq;obtain ⟨h1,h2,h3⟩:=Bj h;rw [List.length_drop] at h1;have hf:=qB (n:=q.2.1) (nI (n:=q.1) (pW hx));rw [Fu hf] at h3;refine ⟨⟨.agg ((l.drop q.1).take q.2.1),bs,[],true⟩,?_,rfl,?_,hb,rfl,h3⟩
   ·rw [if_pos hq,fC,decide_eq_true oM]
   ·exact iB.2 fun v hv=>iB.1 hx v (List.mem_of_mem_drop (List.mem_of_mem_take hv))
  ·rename_i hq;obtain ⟨v,h1,h2⟩:=yG h;refine ⟨⟨v,bs,[],true⟩,?_,rfl,(iB.1 hx v (List.mem_of_getElem? h1)).2.2,hb,rfl,h2⟩;rw [if_neg (by rw [hq];simp),h1];rfl
 ·exact h.elim
def xe (d:TD) (x i:AV) (bs:List (List AV)) (K:K3):Prop:=
 match x with
 |.bU b _ z m=>
  match i with
  |.int _ n=>
   match Nat.beq d.size z with
   |true=>(0<=n∧n<m)∧Go (K (.ptr b (n.toNat*z)) bs [])
   |false=>False
  |_=>False
 |x=>
  match elems x with
  |none=>False
  |some (m,l)=>
   match i with
   |.int _ n=>
    match d with
    |⟨z,_,_,_,_,_⟩=>(0<=n∧n<m∧n.toNat*z<l.length)∧Go (K (.el (l.drop (n.toNat*z))) bs [])
   |_=>False
theorem D9 {d:TD} {x i:AV} {bs:List (List AV)} {K:K3} (hx:wv x=true) (hb:aV bs=true) (h:xe d x i bs K):pE (nM d x i bs) K:=by
 unfold xe at h;unfold nM;split at h
 ·simp only [];split at h
  ·simp only [];split at h
   ·rename_i hz;rw [zh] at hz;refine ⟨⟨_,bs,[],true⟩,?_,rfl,rfl,hb,rfl,h.2⟩;rw [fC,decide_eq_true h.1.1,decide_eq_true h.1.2,decide_eq_true hz];rfl
   ·exact h.elim
  ·exact h.elim
 ·rename_i hnb;split at h
  ·exact h.elim
  rename_i m l hl;split at h
  ·rename_i k n;replace h:(0<=n∧n<m∧n.toNat*d.size<l.length)∧Go (K (.el (l.drop (n.toNat*d.size))) bs []):=by cases d;exact h
   have hpl:wv (.el (l.drop (n.toNat*d.size)))=true:=Cx _ (Ac hx hl);refine ⟨⟨_,bs,[],true⟩,?_,rfl,hpl,hb,rfl,h.2⟩;split
   ·exact absurd rfl (hnb _ _ _ _)
   ·rw [hl];simp only [];rw [fC,decide_eq_true h.1.1,decide_eq_true h.1.2.1,decide_eq_true h.1.2.2];rfl
  ·exact h.elim
def KH (t:Nat) (x i:AV) (bs:List (List AV)) (K:K3):Prop:=
 match x with
 |.str s=>
  match i with
  |.int _ n=>
   match Nat.beq t 9 with
   |true=>(0<=n∧n<s.size)∧Go (K (.int .u8 (bt s n.toNat)) bs [])
   |false=>False
  |_=>False
 |_=>False
theorem OM {t:Nat} {x i:AV} {bs:List (List AV)} {K:K3} (hb:aV bs=true) (h:KH t x i bs K):pE (Dz t x i bs) K:=by
 unfold KH at h;unfold Dz;split at h
 ·simp only [];split at h
  ·simp only [];split at h
   ·rename_i ht;rw [zh] at ht;refine ⟨⟨_,bs,[],true⟩,?_,rfl,rfl,hb,rfl,h.2⟩;rw [fC,decide_eq_true h.1.1,decide_eq_true h.1.2,decide_eq_true ht];rfl
   ·exact h.elim
  ·exact h.elim
 ·exact h.elim
def BP (x:AV) (i:Nat) (bs:List (List AV)) (K:K3):Prop:=
 match x with
 |.bX l=>sj l i fun v=>K v bs []
 |_=>False
theorem H9 {x:AV} {i:Nat} {bs:List (List AV)} {K:K3} (hx:wv x=true) (hb:aV bs=true) (h:BP x i bs K):pE (vG x i bs) K:=by
 unfold BP at h;unfold vG;split at h
 ·obtain ⟨v,h1,h2⟩:=yG h;refine ⟨⟨v,bs,[],true⟩,?_,rfl,(x9.1 hx v (List.mem_of_getElem? h1)).2,hb,rfl,h2⟩;simp only [];rw [h1];rfl
 ·exact h.elim
def w9 (e:Nat) (d:TD) (n c:AV) (bs:List (List AV)) (K:K3):Prop:=
 match n with
 |.int _ n=>
  match c with
  |.int _ c=>
   match Nat.blt 0 d.size && Nat.ble d.size 100 && Nat.ble d.bytes 1000 with
   |true=>(n=0∧0<=c∧c<=100000)∧Go (K (.row e d.size 0 []) bs [])
   |false=>False
  |_=>False
 |_=>False
theorem D8 {e:Nat} {d:TD} {n c:AV} {bs:List (List AV)} {K:K3} (hb:aV bs=true) (h:w9 e d n c bs K):pE (nL e d n c bs) K:=by
 unfold w9 at h;unfold nL;split at h
 ·simp only [];split at h
  ·simp only [];split at h
   ·rename_i h1;simp only [Bool.and_eq_true,Nat.ble_eq,UD] at h1;refine ⟨⟨_,bs,[],true⟩,?_,rfl,rfl,hb,rfl,h.2⟩;rw [fC,decide_eq_true h.1.1,decide_eq_true h.1.2.1,decide_eq_true h.1.2.2,decide_eq_true h1.1.1,decide_eq_true h1.1.2,decide_eq_true h1.2];rfl
   ·exact h.elim
  ·exact h.elim
 ·exact h.elim
def ZU (T:jL) (ts:List Nat) (x:AV) (bs:List (List AV)) (K:K3):Prop:=
 match ts with
 |[t]=>
  match x with
  |.str s=>
   match Nat.beq t 9 with
   |true=>K (.int .i64 s.size) bs []
   |false=>False
  |.bU _ _ _ n=>
   match (vC T t).isSome with
   |true=>K (.int .i64 n) bs []
   |false=>False
  |v=>
   match elems v with
   |none=>False
   |some (n,_)=>
    match (vC T t).isSome with
    |true=>K (.int .i64 n) bs []
    |false=>False
 |_=>False
theorem Vl {T:jL} {ts:List Nat} {x:AV} {bs:List (List AV)} {K:K3} (hb:aV bs=true) (h:ZU T ts x bs K):pE (Ut T ts x bs) K:=by
 unfold ZU at h;unfold Ut;split at h
 ·simp only [];split at h
  ·simp only [];split at h
   ·rename_i ht;rw [zh] at ht;refine ⟨⟨_,bs,[],true⟩,?_,rfl,rfl,hb,rfl,h⟩;rw [fC,decide_eq_true ht]
   ·exact h.elim
  ·simp only [];split at h
   ·rename_i ht;exact ⟨⟨_,bs,[],true⟩,by rw [fC,ht],rfl,rfl,hb,rfl,h⟩
   ·exact h.elim
  ·rename_i h1 h2;split at h
   ·exact h.elim
   rename_i n l hl;split at h
   ·rename_i ht;refine ⟨⟨_,bs,[],true⟩,?_,rfl,rfl,hb,rfl,h⟩;split
    ·exact absurd rfl (h1 _)
    ·exact absurd rfl (h2 _ _ _ _)
    ·rw [hl];simp only [];rw [fC,ht]
   ·exact h.elim
 ·exact h.elim
def Vn (mx:Bool) (x y:AV) (bs:List (List AV)) (K:K3):Prop:=
 match x with
 |.int k a=>
  match y with
  |.int k' b=>
   match decide (k=k') with
   |true=>
    match mx with
    |true=>K (.int k (max a b)) bs []
    |false=>K (.int k (min a b)) bs []
   |false=>False
  |_=>False
 |_=>False
theorem MQ {mx:Bool} {x y:AV} {bs:List (List AV)} {K:K3} (hb:aV bs=true) (h:Vn mx x y bs K):pE ((GK mx x y).bind fun v=>yes v bs) K:=by
 unfold Vn at h;split at h
 ·rename_i k a;split at h
  ·rename_i k' b;split at h
   ·rename_i hk;have hk:=of_decide_eq_true hk;split at h
    ·refine ⟨⟨.int k (max a b),bs,[],true⟩,?_,rfl,rfl,hb,rfl,h⟩;rw [GK,if_pos hk,if_pos rfl];show some _=some _;congr 3;show (if b>a then b else a)=max a b;split<;>omega
    ·refine ⟨⟨.int k (min a b),bs,[],true⟩,?_,rfl,rfl,hb,rfl,h⟩;rw [GK,if_pos hk,if_neg (by simp)];show some _=some _;congr 3;show (if b<a then b else a)=min a b;split<;>omega
   ·exact h.elim
  ·exact h.elim
 ·exact h.elim
abbrev X6 (ex:Bool) (x:Option Out) (K:K3):Prop:=∃out v,x=some out∧out.ok=true∧wv out.v=true∧wv v=true∧aV out.bs=true∧aV out.nw=true∧(v=out.v∨ex=false∧out.v=.nil∧∃e z,v=.row e z 0 [])∧K v out.bs out.nw
theorem pE.E {ex:Bool} {x:Option Out} {K:K3} (h:pE x K):X6 ex x K:=by obtain ⟨out,h1,h2,h3,h4,h5,h6⟩:=h;exact ⟨out,out.v,h1,h2,h3,h3,h4,h5,.inl rfl,h6⟩
def BS (ex:Bool) (e z y:Nat) (s x:AV) (ok:Bool) (bs:List (List AV)) (K:K3):Prop:=
 match ok && Nat.blt 0 z && Nat.ble y 1000 with
 |true=>
  match elems x with
  |none=>False
  |some (m,k)=>
   match s with
   |.nil=>(m<=10000000000∧k.length=m*z)∧Go
    (match ex with
    |true=>(m=0->Go (K .nil bs []))∧(0<m->Go (K (.row e z m k) bs []))
    |false=>K (.row e z m k) bs [])
   |.row e' z' n l=>
    match Nat.beq e' e && Nat.beq z' z with
    |true=>(n+m<=10000000000∧k.length=m*z)∧Go (K (.row e z (n+m) (l++k)) bs [])
    |false=>False
   |_=>False
 |false=>False
def MR (ex:Bool) (e:Nat) (d:TD) (s x:AV) (ok:Bool) (bs:List (List AV)) (K:K3):Prop:=
 match d with
 |⟨z,y,_,_,_,_⟩=>BS ex e z y s x ok bs K
theorem KL {ex:Bool} {e:Nat} {d:TD} {s x:AV} {ok:Bool} {bs:List (List AV)} {K:K3} (hs:wv s=true) (hx:wv x=true) (hb:aV bs=true) (h:MR ex e d s x ok bs K):X6 ex (pR e d s x ok bs) K:=by
 replace h:BS ex e d.size d.bytes s x ok bs K:=by cases d;exact h
 unfold BS at h;split at h
 ·rename_i h1;simp only [Bool.and_eq_true,Nat.ble_eq,UD] at h1;obtain ⟨⟨a1,a2⟩,a3⟩:=h1;split at h
  ·exact h.elim
  rename_i m k hk;have hp:=Ac hx hk;have hcond:∀{n:Nat},n+m<=10000000000->k.length=m*d.size->(ok && decide (n+m<=10000000000) && decide (k.length=m*d.size) && decide (0<d.size) && decide (d.bytes<=1000) && dI k && AV.ak k)=true:=by intro n b1 b2;rw [a1,decide_eq_true b1,decide_eq_true b2,decide_eq_true a2,decide_eq_true a3,Cw hp,bB hp];rfl
  split at h
  ·obtain ⟨⟨b1,b2⟩,h⟩:=h;have hc:pR e d .nil x ok bs=some ⟨MH .nil e d.size (0+m) m k,bs,[],true⟩:=by unfold pR;rw [show SA e d.size .nil=some (0,[]) from rfl];simp only [];rw [hk];simp only [];rw [fC,hcond oM b2];rfl
   rw [Nat.zero_add] at hc;cases m with
   |zero=>
    have hk0:k=[]:=List.eq_nil_of_length_eq_zero (by rw [b2];simp);subst hk0;cases ex with
    |true=>exact ⟨_,_,hc,rfl,rfl,rfl,hb,rfl,.inl rfl,h.1 rfl⟩
    |false=>exact ⟨_,.row e d.size 0 [],hc,rfl,rfl,rfl,hb,rfl,.inr ⟨rfl,rfl,_,_,rfl⟩,h⟩
   |succ m=>
    have hw:wv (.row e d.size (m+1) k)=true:=hp;cases ex with
    |true=>exact ⟨_,_,hc,rfl,hw,hw,hb,rfl,.inl rfl,h.2 oM⟩
    |false=>exact ⟨_,_,hc,rfl,hw,hw,hb,rfl,.inl rfl,h⟩
  ·rename_i e' z' n l;split at h
   ·rename_i h2;rw [Bool.and_eq_true,zh,zh] at h2;obtain ⟨⟨b1,b2⟩,h⟩:=h;have hw:wv (.row e d.size (n+m) (l++k))=true:=fV hs hp;have hc:pR e d (.row e' z' n l) x ok bs=some ⟨.row e d.size (n+m) (l++k),bs,[],true⟩:=by unfold pR;rw [show SA e d.size (.row e' z' n l)=some (n,l) from by rw [SA,if_pos h2]];simp only [];rw [hk];simp only [];rw [fC,hcond b1 b2];rfl
    exact ⟨_,_,hc,rfl,hw,hw,hb,rfl,.inl rfl,h⟩
   ·exact h.elim
  ·exact h.elim
 ·exact h.elim
def BQ (ex:Bool) (T:jL) (b:Builtin) (xs:List AV) (ts:List Nat) (bs:List (List AV)) (K:K3):Prop:=
 match b with
 |.len=>
  match xs with
  |[x]=>ZU T ts x bs K
  |_=>False
 |.max=>
  match xs with
  |[x,y]=>Vn true x y bs K
  |_=>False
 |.min=>
  match xs with
  |[x,y]=>Vn false x y bs K
  |_=>False
 |.append=>
  match xs with
  |[s,x]=>
   match ts with
   |[t,t']=>
    match vC T t with
    |none=>False
    |some (e,d)=>MR ex e d s x (Nat.beq t' t) bs K
   |_=>False
  |_=>False
 |_=>False
theorem Ia {ex:Bool} {T:jL} {b:Builtin} {xs:List AV} {ts:List Nat} {bs:List (List AV)} {K:K3} (hx:gZ xs=true) (hb:aV bs=true) (h:BQ ex T b xs ts bs K):X6 ex (zf T b xs ts bs) K:=by
 unfold BQ at h;unfold zf;split at h
 ·split at h
  ·exact (Vl hb h).E
  ·exact h.elim
 ·split at h
  ·exact (MQ hb h).E
  ·exact h.elim
 ·split at h
  ·exact (MQ hb h).E
  ·exact h.elim
 ·split at h
  ·rename_i s x;simp only [];split at h
   ·rename_i t t';simp only [];split at h
    ·exact h.elim
    rename_i e d hd;rw [hd];simp only [];have hx':=iP.1 hx;have:=KL (hx' s (by simp)) (hx' x (by simp)) hb h;rw [show decide (t'=t)=Nat.beq t' t from by
     by_cases e:t'=t
     ·rw [decide_eq_true e,e,qF]
     ·rw [decide_eq_false e,DF e]]
    exact this
   ·exact h.elim
  ·exact h.elim
 ·exact h.elim
def MI (p:List AV->Bool):List (List AV)->Bool
 |[]=>true
 |c::r=>p c && MI p r
theorem zn (p:List AV->Bool):∀(l:List (List AV)),MI p l=l.all p
 |[]=>rfl
 |c::r=>by rw [MI,List.all_cons,zn p r]
def xW:List Nat->(List Nat->Prop)->Prop
 |[],K=>K []
 |x::l,K=>xW l fun l=>K (x::l)
theorem ky:∀(l:List Nat) (K:List Nat->Prop),xW l K=K l
 |[],_=>rfl
 |x::l,K=>by rw [xW,ky l]
def Qr (sp:Sp) (ids:List Nat) (L:Nat) (f:AV) (xs:List AV) (bs:List (List AV)) (K:K3):Prop:=
 match f with
 |.fn f c=>
  match ym (bW (xs.map AV.bY++c)) ids && MI (fun b=>ym (bW b) ids) bs with
  |true=>
   match assoc sp f with
   |some mY=>rf (oO (fA ids.idxOf (xs.map AV.bY++c))) fun args=>AJ (bs.map (fA ids.idxOf)) fun bss=>mY args bss fun v b=>Go
    (match Nat.ble ids.length b.length && below b.length (iY v) && MI (fun c=>below b.length (bW c)) b with
    |true=>Em (pY (ic ids L) v) fun v=>AJ ((b.take ids.length).map (fA (ic ids L))) fun b1=>AJ ((b.drop ids.length).map (fA (ic ids L))) fun b2=>K v b1 b2
    |false=>False)
   |none=>False
  |false=>False
 |_=>False
theorem Bf {f:Nat->Nat}:∀{l:List AV},dQ l=true->dQ (AV.aO f l)=true
 |[],_=>rfl
 |x::l,h=>by rw [dQ] at h;simp only [Bool.and_eq_true] at h;rw [AV.aO,dQ,Nq,h.1.1,zC h.1.2,Bf h.2];rfl
theorem mr {f:Nat->Nat}:∀{b:List (List AV)},aV b=true->b.map (AV.aO f)=b.map (fA f)∧aV (b.map (AV.aO f))=true
 |[],_=>⟨rfl,rfl⟩
 |c::r,h=>by rw [aV,Bool.and_eq_true] at h;obtain ⟨h1,h2⟩:=mr (f:=f) h.2;refine ⟨by rw [List.map_cons,List.map_cons,h1,tO (sW h.1)],?_⟩;rw [List.map_cons,aV,Bf h.1,h2];rfl
theorem DN {p:List Nat->Bool} {b:List (List AV)} (h:aV b=true):(b.all fun c=>p (AV.aN c))=b.all fun c=>p (bW c):=by
 induction b with
 |nil=>rfl
 |cons c r ih=>
  rw [aV,Bool.and_eq_true] at h;rw [List.all_cons,List.all_cons,ih h.2,kJ (sW h.1)]
theorem Qq {sp:Sp} {cal:xR} (hI:Is sp cal) {ids:List Nat} {L:Nat} {f:AV} {xs:List AV} {bs:List (List AV)} {K:K3} (hf:wv f=true) (hx:gZ xs=true) (hb:aV bs=true) (h:Qr sp ids L f xs bs K):pE (FK cal ids L f xs bs) K:=by
 unfold Qr at h;split at h
 ·rename_i f c;have hc:xU c=true:=hf;have hargs:gZ (xs.map AV.bY++c)=true:=xm (uP hx) (pF hc);split at h
  ·rename_i h1;rw [Bool.and_eq_true,zn] at h1;obtain ⟨h1,h2⟩:=h1;split at h
   ·rename_i mY hcon;simp only [jK,qy,wE] at h;have hI:=hI f mY hcon (fA ids.idxOf (xs.map AV.bY++c)) _ _ (by rw [←tO hargs];exact MS hargs) h;obtain ⟨r,b,g1,g2,g3,g4⟩:=hI;have h:=g4 _ h;unfold Go at h;split at h
    ·rename_i h3;rw [Bool.and_eq_true,Bool.and_eq_true,zn,Nat.ble_eq] at h3;obtain ⟨⟨h3,h4⟩,h5⟩:=h3;have hbt:aV (b.take ids.length)=true:=bg.2 fun c hc=>bg.1 g3 c (List.mem_of_mem_take hc);have hbd:aV (b.drop ids.length)=true:=bg.2 fun c hc=>bg.1 g3 c (List.mem_of_mem_drop hc);refine ⟨⟨r.bK (ic ids L),(b.take ids.length).map (AV.aO (ic ids L)),(b.drop ids.length).map (AV.aO (ic ids L)),true⟩,?_,rfl,zC g2,(mr hbt).2,(mr hbd).2,?_⟩
     ·unfold FK;simp only [];rw [if_pos ⟨jM hc,by rw [kJ hargs];exact h1,by rw [DN (p:=fun l=>ym l ids) hb];exact h2⟩,tO hargs,(mr hb).1,g1];simp only [];rw [decide_eq_true h3,uf g2,h4,DN (p:=fun l=>below b.length l) g3,h5];rfl
     ·rw [Ga g2,(mr hbt).1,(mr hbd).1];exact h
    ·exact h.elim
   ·exact h.elim
  ·exact h.elim
 ·exact h.elim
abbrev Kn:=List (Nat×Bool)
def SN (kn:Kn):Operand->Option Bool
 |.tmp t=>assoc kn t
 |_=>none
def Yb (kn:Kn) (c:Operand) (cv a b:AV) (bs:List (List AV)) (K:K3):Prop:=
 match SN kn c with
 |some true=>yZ a fun v=>K v bs []
 |some false=>yZ b fun v=>K v bs []
 |none=>
  match cv with
  |.bool t=>(t=true->Go (yZ a fun v=>K v bs []))∧(t=false->Go (yZ b fun v=>K v bs []))
  |_=>False
def JY:List AV->(List AV->Prop)->Prop
 |[],K=>K []
 |v::l,K=>yZ v fun v=>JY l fun l=>K (v::l)
theorem Dq:∀(l:List AV) (K:List AV->Prop),JY l K=K (l.map AV.bY)
 |[],_=>rfl
 |v::l,K=>by rw [JY,lJ,Dq];rfl
def hdK (v:AV) (K:AV->Prop):Prop:=
 match v with
 |.row e z n l=>K (.row e z n l)
 |.bool b=>K (.bool b)
 |.int k n=>K (.int k n)
 |.str s=>K (.str s)
 |.ptr i o=>K (.ptr i o)
 |.nil=>K .nil
 |.sl n l=>K (.sl n l)
 |.el l=>K (.el l)
 |.agg l=>K (.agg l)
 |.bX l=>K (.bX l)
 |.fn f c=>K (.fn f c)
 |.nz k=>K (.nz k)
 |.nP k=>K (.nP k)
 |.low k d m=>K (.low k d m)
 |.bU i e z n=>K (.bU i e z n)
 |.bad=>K .bad
theorem LU (v:AV) (K:AV->Prop):hdK v K=K v:=by cases v<;>rfl
def EA (sp:Sp) (ex:Bool) (T:jL) (ad mt:Bool) (L:Nat) (kn:Kn) (ρ:Operand->AV) (bs:List (List AV)) (ids:List Nat) (op:Op) (K:K3):Prop:=
 match op with
 |.move x=>
  match ad with
  |true=>hdK (ρ x) fun v=>K v bs []
  |false=>yZ (ρ x) fun v=>K v bs []
 |.assign x=>hdK (ρ x) fun v=>K v bs []
 |.pick c a b=>Yb kn c (ρ c) (ρ a) (ρ b) bs K
 |.alloc t=>
  match T t with
  |some d=>rf d.zero fun z=>K (.ptr L 0) bs [z]
  |none=>False
 |.box t x=>yZ (ρ x) fun v=>
  match okC v with
  |true=>rf (cells v) fun c=>K (.ptr L 0) bs [c]
  |false=>False
 |.build t ps=>
  match T t with
  |some d=>KJ d (qm ρ ps.toList) bs K
  |none=>False
 |.buildSlice t len ps=>
  match vC T t with
  |some q=>uO mt L q.1 q.2 len (qm ρ ps.toList) bs K
  |none=>False
 |.makeSlice t n c=>
  match vC T t with
  |some q=>w9 q.1 q.2 (ρ n) (ρ c) bs K
  |none=>False
 |.load t a=>
  match T t with
  |some d=>Qp d ad (ρ a) bs K
  |none=>False
 |.store t a x=>
  match T t with
  |some d=>KE d (ρ a) (ρ x) bs K
  |none=>False
 |.nilCheck x=>
  match ρ x with
  |.ptr i o=>K (.ptr i o) bs []
  |.el l=>K (.el l) bs []
  |_=>False
 |.binOp op t x y _=>ZX op t (ρ x) (ρ y) fun v=>K v bs []
 |.unOp op _ x=>
  match op with
  |.not=>
   match ρ x with
   |.bool b=>K (.bool !b) bs []
   |_=>False
  |_=>False
 |.convert s t x=>
  match Nat.beq s 5 && Nat.beq t 3 with
  |true=>
   match ρ x with
   |.int _ n=>(-9223372036854775808<=n∧n<=9223372036854775807)∧Go (K (.int .i64 n) bs [])
   |_=>False
  |false=>False
 |.makeFunc fn first cap=>
  match fn with
  |.func f=>
   match Nat.beq first.size 0 with
   |true=>JY (cap.toList.map ρ) fun l=>K (.fn f l) bs []
   |false=>False
  |_=>False
 |.slice t x lo hi mx=>
  match mx with
  |some _=>False
  |none=>KF T t (ρ x) (lo.map ρ) (hi.map ρ) bs K
 |.fieldAddr t x f=>
  match T t with
  |some d=>
   match d.iG[f]? with
   |some q=>xg q (ρ x) bs K
   |none=>False
  |none=>False
 |.field t x f=>
  match T t with
  |some d=>
   match d.iG[f]? with
   |some q=>KI q (ρ x) bs K
   |none=>False
  |none=>False
 |.indexAddr t x i=>
  match vC T t with
  |some q=>xe q.2 (ρ x) (ρ i) bs K
  |none=>False
 |.index t x i=>KH t (ρ x) (ρ i) bs K
 |.extract x i=>BP (ρ x) i bs K
 |.call c=>
  match c.callee with
  |.builtin b=>BQ ex T b (c.args.toList.map ρ) c.argTypes.toList bs K
  |.value f=>Qr sp ids L (ρ f) (c.args.toList.map ρ) bs K
  |_=>False
 |_=>False
structure rC (T:jL):Prop where
 pos:∀t d,T t=some d->0<d.size
 one:∀t d,T t=some d->d.agg=true->1<d.size
 zw:∀t d,T t=some d->dQ d.zero=true∧AV.ak d.zero=true
theorem Gc {ρ:Operand->AV} (hρ:∀x,wv (ρ x)=true):∀{l:List (Nat×Operand)},∀p ∈ qm ρ l,wv p.2=true∧p.2.bY=p.2
 |[],p,h=>by cases h
 |(i,x)::r,p,h=>by
  rw [qm] at h;rcases List.mem_cons.1 h with rfl|h
  ·exact ⟨lK (hρ x),by show (ρ x).bY.bY=(ρ x).bY;cases ρ x<;>rfl⟩
  ·exact Gc hρ p h
theorem Ib {ρ:Operand->AV} (hρ:∀x,wv (ρ x)=true) (l:List Operand):gZ (l.map ρ)=true:=iP.2 fun v hv=>by obtain ⟨x,-,rfl⟩:=List.mem_map.1 hv;exact hρ x
theorem x8 {sp:Sp} {cal:xR} (hI:Is sp cal) {T:jL} (hT:rC T) {ex ad mt:Bool} {L:Nat} {kn:Kn} {ρ:Operand->AV} {bs:List (List AV)} {ids:List Nat} {ty:Nat} {op:Op} {K:K3} (hρ:∀x,wv (ρ x)=true) (hb:aV bs=true) (hkn:∀x b,SN kn x=some b->ρ x=.bool b) (h:EA sp ex T ad mt L kn ρ bs ids op K):X6 ex (core cal T ad mt L ρ bs ids ty op) K:=by
 cases op<;>unfold EA at h<;>simp only [] at h<;>first|exact h.elim|skip
 ·rename_i x;refine pE.E ?_;cases ad with
  |true=>
   simp only [LU] at h;exact ⟨⟨ρ x,bs,[],true⟩,rfl,rfl,hρ x,hb,rfl,h⟩
  |false=>
   simp only [lJ] at h;exact ⟨⟨(ρ x).bY,bs,[],true⟩,rfl,rfl,lK (hρ x),hb,rfl,h⟩
 ·rename_i x;simp only [LU] at h;exact pE.E ⟨⟨ρ x,bs,[],true⟩,rfl,rfl,hρ x,hb,rfl,h⟩
 ·rename_i c a b;refine pE.E ?_;unfold Yb at h;show pE (Ol (ρ c) (ρ a) (ρ b) bs) K;split at h
  ·rename_i hk;rw [hkn c true hk];simp only [lJ] at h;exact ⟨⟨(ρ a).bY,bs,[],true⟩,rfl,rfl,lK (hρ a),hb,rfl,h⟩
  ·rename_i hk;rw [hkn c false hk];simp only [lJ] at h;exact ⟨⟨(ρ b).bY,bs,[],true⟩,rfl,rfl,lK (hρ b),hb,rfl,h⟩
  ·split at h
   ·rename_i t ht;rw [ht];simp only [lJ,Go] at h;cases t with
    |true=>exact ⟨⟨(ρ a).bY,bs,[],true⟩,rfl,rfl,lK (hρ a),hb,rfl,h.1 rfl⟩
    |false=>exact ⟨⟨(ρ b).bY,bs,[],true⟩,rfl,rfl,lK (hρ b),hb,rfl,h.2 rfl⟩
   ·exact h.elim
 ·rename_i t;refine pE.E ?_;split at h
  ·rename_i d hd;show pE (eO (T t) fun d=>FJ L bs d.zero true) K;rw [jK] at h;rw [hd];refine ⟨⟨.ptr L 0,bs,[d.zero],true⟩,rfl,rfl,rfl,hb,?_,h⟩;rw [aV,(hT.zw t d hd).1,aV];rfl
  ·exact h.elim
 ·rename_i t x;refine pE.E ?_;simp only [lJ,jK] at h;split at h
  ·rename_i hc;have h5:=tT (lK (hρ x)) (Lr hc);refine ⟨⟨.ptr L 0,bs,[cells (ρ x).bY],true⟩,?_,rfl,rfl,hb,?_,h⟩
   ·show FJ L bs (cells (ρ x).bY) (dI (cells (ρ x).bY) && (ρ x).bY.flat)=_;rw [h5,lS (hρ x)];rfl
   ·rw [aV,vN (lK (hρ x)) h5,aV];rfl
  ·exact h.elim
 ·rename_i t ps;refine pE.E ?_;split at h
  ·rename_i d hd;show pE (eO (T t) fun d=>vH d (qm ρ ps.toList) bs) K;rw [hd];exact OP (Gc hρ) hb (hT.zw t d hd).1 (hT.zw t d hd).2 h
  ·exact h.elim
 ·rename_i t len ps;refine pE.E ?_;split at h
  ·rename_i q hq;show pE (eO (vC T t) fun q=>fq mt L q.1 q.2 len (qm ρ ps.toList) bs) K;rw [hq];exact BR (Gc hρ) hb h
  ·exact h.elim
 ·rename_i t a;refine pE.E ?_;split at h
  ·rename_i d hd;show pE (eO (T t) fun d=>ou d ad (ρ a) bs) K;rw [hd];exact Qo (hρ a) hb (hT.pos t d hd) h
  ·exact h.elim
 ·rename_i t a x;refine pE.E ?_;split at h
  ·rename_i d hd;show pE (eO (T t) fun d=>qD T t d (ρ a) (ρ x) bs) K;rw [hd];refine OJ (T:=T) (t:=t) (hρ x) hb ?_ h;cases hA:d.agg with
   |true=>exact .inl (hT.one t d hd hA)
   |false=>exact .inr rfl
  ·exact h.elim
 ·rename_i x;refine pE.E ?_;show pE (XD (ρ x) bs) K;split at h
  ·rename_i i o hx;rw [hx];exact ⟨⟨.ptr i o,bs,[],true⟩,rfl,rfl,rfl,hb,rfl,h⟩
  ·rename_i l hx;have:=hρ x;rw [hx] at this⊢;exact ⟨⟨.el l,bs,[],true⟩,rfl,rfl,this,hb,rfl,h⟩
  ·exact h.elim
 ·rename_i op t x y _;refine pE.E ?_;obtain ⟨v,h1,h2,h3⟩:=Vp (bs:=bs) h;exact ⟨⟨v,bs,[],true⟩,h1,rfl,h2,hb,rfl,h3⟩
 ·rename_i op _ x;refine pE.E ?_;cases op<;>simp only [] at h<;>first|exact h.elim|skip
  split at h
  ·rename_i b hx;refine ⟨⟨.bool !b,bs,[],true⟩,?_,rfl,rfl,hb,rfl,h⟩;show XC .not (ρ x) bs=_;rw [hx];rfl
  ·exact h.elim
 ·rename_i s t x;refine pE.E ?_;split at h
  ·rename_i h1;rw [Bool.and_eq_true,zh,zh] at h1;split at h
   ·rename_i k n hx;refine ⟨⟨.int .i64 n,bs,[],true⟩,?_,rfl,rfl,hb,rfl,h.2⟩;show J9 s t (ρ x) bs=_;rw [hx];unfold J9;simp only [];rw [fC,wrap64 h.1,decide_eq_true h1.1,decide_eq_true h1.2];rfl
   ·exact h.elim
  ·exact h.elim
 ·rename_i fn first cap
  refine pE.E ?_;split at h
  ·rename_i f;split at h
   ·rename_i h1;rw [zh] at h1;simp only [Dq,List.map_map] at h;refine ⟨⟨.fn f (cap.toList.map fun x=>(ρ x).bY),bs,[],true⟩,?_,rfl,?_,hb,rfl,h⟩
    ·show (if first.size=0 then _ else _)=_;rw [if_pos h1];rfl
    ·refine x9.2 fun v hv=>?_;obtain ⟨x,-,rfl⟩:=List.mem_map.1 hv;exact ⟨lS (hρ x),lK (hρ x)⟩
   ·exact h.elim
  ·exact h.elim
 ·rename_i t n c;refine pE.E ?_;split at h
  ·rename_i q hq;show pE (eO (vC T t) fun q=>nL q.1 q.2 (ρ n) (ρ c) bs) K;rw [hq];exact D8 hb h
  ·exact h.elim
 ·rename_i t x lo hi mx;refine pE.E ?_;split at h
  ·exact h.elim
  ·exact OL (hρ x) hb h
 ·rename_i t x f;refine pE.E ?_;split at h
  ·rename_i d hd;split at h
   ·rename_i q hq;show pE (eO (T t) fun d=>eO (d.iG[f]?) fun q=>jd q (ρ x) bs) K;rw [hd];show pE (eO (d.iG[f]?) fun q=>jd q (ρ x) bs) K;rw [hq];exact Ea (hρ x) hb h
   ·exact h.elim
  ·exact h.elim
 ·rename_i t x f;refine pE.E ?_;split at h
  ·rename_i d hd;split at h
   ·rename_i q hq;show pE (eO (T t) fun d=>eO (d.iG[f]?) fun q=>xK q (ρ x) bs) K;rw [hd];show pE (eO (d.iG[f]?) fun q=>xK q (ρ x) bs) K;rw [hq];exact OO (hρ x) hb h
   ·exact h.elim
  ·exact h.elim
 ·rename_i t x i;refine pE.E ?_;split at h
  ·rename_i q hq;show pE (eO (vC T t) fun q=>nM q.2 (ρ x) (ρ i) bs) K;rw [hq];exact D9 (hρ x) hb h
  ·exact h.elim
 ·rename_i t x i;exact pE.E (OM hb h)
 ·rename_i x i;exact pE.E (H9 (hρ x) hb h)
 ·rename_i c;unfold core;simp only [];split at h
  ·rename_i b hc;rw [hc];exact Ia (Ib hρ _) hb h
  ·rename_i f hc;rw [hc];exact pE.E (Qq hI (hρ f) (Ib hρ _) hb h)
  ·exact h.elim
def aa4 (b:List (List AV)) (K:Nat->Prop):Prop:=
 match b with
 |[]=>K 0
 |[_]=>K 1
 |[_,_]=>K 2
 |[_,_,_]=>K 3
 |[_,_,_,_]=>K 4
 |[_,_,_,_,_]=>K 5
 |[_,_,_,_,_,_]=>K 6
 |[_,_,_,_,_,_,_]=>K 7
 |[_,_,_,_,_,_,_,_]=>K 8
 |[_,_,_,_,_,_,_,_,_]=>K 9
 |[_,_,_,_,_,_,_,_,_,_]=>K 10
 |[_,_,_,_,_,_,_,_,_,_,_]=>K 11
 |[_,_,_,_,_,_,_,_,_,_,_,_]=>K 12
 |[_,_,_,_,_,_,_,_,_,_,_,_,_]=>K 13
 |[_,_,_,_,_,_,_,_,_,_,_,_,_,_]=>K 14
 |[_,_,_,_,_,_,_,_,_,_,_,_,_,_,_]=>K 15
 |[_,_,_,_,_,_,_,_,_,_,_,_,_,_,_,_]=>K 16
 |[_,_,_,_,_,_,_,_,_,_,_,_,_,_,_,_,_]=>K 17
 |[_,_,_,_,_,_,_,_,_,_,_,_,_,_,_,_,_,_]=>K 18
 |[_,_,_,_,_,_,_,_,_,_,_,_,_,_,_,_,_,_,_]=>K 19
 |[_,_,_,_,_,_,_,_,_,_,_,_,_,_,_,_,_,_,_,_]=>K 20
 |b=>K b.length
theorem Wl (b:List (List AV)) (K:Nat->Prop):aa4 b K=K b.length:=by unfold aa4;split<;>rfl
def xOp (sp:Sp) (ex:Bool) (T:jL) (md:Md) (kn:Kn) (o:Oper) (σ:aJ) (K:aJ->Prop):Prop:=
 match σ with
 |⟨tm,bx⟩=>xW (Ir (val tm) bx o.op) fun ids=>
  match bn bx ids with
  |none=>False
  |some cs=>aa4 bx fun L=>EA sp ex T (gJ md.ad o.dst) (gJ md.arr o.dst) L kn (val tm) cs ids o.op fun v bs nw=>
   JS (jD (gJ md.ad o.dst) o.op) tm fun tm=>wX tm o.dst v fun tm=>Nf ids bs bx fun b=>nwK b nw fun b=>K ⟨tm,b⟩
def KN (kn:Kn) (σ:aJ):Prop:=∀x b,SN kn x=some b->val σ.tm x=.bool b
def knD (kn:Kn) (d:Option Nat):Kn:=
 match d with
 |none=>kn
 |some d=>
  match assoc kn d with
  |none=>kn
  |some _=>[]
def Qi (ex:Bool) (σ σ':aJ):Prop:=σ'=σ∨ex=false∧∃tm d e z b,σ=⟨put tm d .nil,b⟩∧σ'=⟨put tm d (.row e z 0 []),b⟩
def Hz (kn:Kn) (d:Option Nat) (K:Kn->Prop):Prop:=
 match d with
 |none=>K kn
 |some d=>
  match assoc kn d with
  |none=>K kn
  |some _=>K []
theorem u7 (kn:Kn) (d:Option Nat) (K:Kn->Prop):Hz kn d K=K (knD kn d):=by
 unfold Hz knD;cases d with
 |none=>rfl
 |some d=>
  simp only [];cases assoc kn d<;>rfl
theorem KN.next {kn:Kn} {σ:aJ} (h:KN kn σ) (ks:List Nat) (d:Option Nat) (v:AV) (b:List (List AV)):KN (knD kn d) ⟨dW (eZ σ.tm ks) d v,b⟩:=by
 have hg:KN kn ⟨eZ σ.tm ks,b⟩:=by
  intro x c hx;cases x with
  |tmp t=>
   have:=h _ _ hx;show get (eZ σ.tm ks) t=_;have this:get σ.tm t=.bool c:=this;rcases (sH ks σ.tm t).1 with e|e
   ·rw [e];exact this
   ·rw [e,this];rfl
  |_=>cases hx
 unfold knD;cases d with
 |none=>exact hg
 |some d=>
  simp only [];cases hd:assoc kn d with
  |none=>
   simp only [];intro x c hx;cases x with
   |tmp t=>
    have h1:=hg _ _ hx;have hne:t≠d:=by rintro rfl;rw [SN,hd] at hx;cases hx
    show get (put (eZ σ.tm ks) d v) t=_;rw [ah,if_neg hne];exact h1
   |_=>cases hx
  |some q=>
   intro x c hx;cases x<;>cases hx
theorem KG {sp:Sp} {cal:xR} (hI:Is sp cal) {T:jL} (hT:rC T) {ex:Bool} {md:Md} {kn:Kn} {o:Oper} {σ:aJ} {K:aJ->Prop} (hσ:Ok σ) (hk:KN kn σ) (h:xOp sp ex T md kn o σ K):∃σ1 σ2,OA cal T md o σ=some σ1∧Ok σ2∧Qi ex σ1 σ2∧KN (knD kn o.dst) σ2∧K σ2:=by
 unfold xOp at h;change xW (Ir (val σ.tm) σ.bx o.op) _ at h;rw [ky,←yg (oD hσ.tm) hσ.bx o.op] at h;split at h
 ·exact h.elim
 rename_i cs hcs;rw [Wl] at h;obtain ⟨out,v,h1,h2,h3,h4,h5,h6,h7,h8⟩:=x8 (ty:=o.type) hI hT (oD hσ.tm) (lU hσ.bx hcs) hk h;rw [wC,nW,IW,aaX] at h8;refine ⟨fin o.dst out (dS (val σ.tm) σ.bx o.op) (jD (gJ md.ad o.dst) o.op) σ,_,?_,⟨qf h4 (rU hσ.tm),ko (qO hσ.bx h5) h6⟩,?_,hk.next _ _ _ _,h8⟩
 ·unfold OA wQ;rw [hcs];simp only [];rw [h1];simp only [];rw [if_pos h2]
 ·rcases h7 with rfl|⟨e1,e2,e,z,rfl⟩
  ·exact .inl rfl
  ·cases hd:o.dst with
   |none=>exact .inl rfl
   |some d=>
    refine .inr ⟨e1,_,d,e,z,_,?_,rfl⟩;unfold fin;rw [e2];rfl
def Ym (d:Option Nat) (σ:aJ) (K:aJ->Prop):Prop:=
 match σ with
 |⟨tm,bx⟩=>wX tm d (.bX []) fun tm=>K ⟨tm,bx⟩
def H8 (sp:Sp) (ex:Bool) (T:jL) (md:Md) (all:List Oper) (kn:Kn) (o:Oper) (σ:aJ) (K:Bool->Kn->aJ->Prop):Prop:=
 match o.guard with
 |none=>xOp sp ex T md kn o σ fun τ=>Hz kn o.dst fun kn=>K true kn τ
 |some (j,want)=>
  match (all[j]?).bind (·.dst) with
  |none=>False
  |some t=>
   match assoc kn t with
   |some b=>
    match b==want with
    |true=>xOp sp ex T md kn o σ fun τ=>Hz kn o.dst fun kn=>K true kn τ
    |false=>Ym o.dst σ fun τ=>Hz kn o.dst fun kn=>K false kn τ
   |none=>
    match get σ.tm t with
    |.bool b=>(b=want->Go (xOp sp ex T md ((t,want)::kn) o σ fun τ=>Hz ((t,want)::kn) o.dst fun kn=>K true kn τ))∧(b=(!want)->Go (Ym o.dst σ fun τ=>Hz ((t,!want)::kn) o.dst fun kn=>K false kn τ))
    |.bX []=>Ym o.dst σ fun τ=>Hz kn o.dst fun kn=>K false kn τ
    |_=>False
theorem KN.cons {kn:Kn} {σ:aJ} {t:Nat} {b:Bool} (h:KN kn σ) (ht:get σ.tm t=.bool b):KN ((t,b)::kn) σ:=by
 intro x c hx;cases x with
 |tmp k=>
  rw [SN,assoc] at hx;split at hx
  ·rename_i e;have:=Nat.eq_of_beq_eq_true e;cases hx;show get σ.tm k=_;rw [this];exact ht
  ·exact h (.tmp k) c hx
 |_=>cases hx
theorem Bo {kn:Kn} {o:Oper} {σ:aJ} (hσ:Ok σ) (hk:KN kn σ):Ok (Cj o σ)∧KN (knD kn o.dst) (Cj o σ):=by refine ⟨⟨qf rfl hσ.tm,hσ.bx⟩,?_⟩;have:=hk.next [] o.dst (.bX []) σ.bx;exact this
theorem MP {sp:Sp} {cal:xR} (hI:Is sp cal) {T:jL} (hT:rC T) {ex:Bool} {md:Md} {all:List Oper} {kn:Kn} {o:Oper} {σ:aJ} {K:Bool->Kn->aJ->Prop} (hσ:Ok σ) (hk:KN kn σ) (h:H8 sp ex T md all kn o σ K):∃σ1 σ2 go xA,lg cal T md all o σ=some σ1∧pg all o σ=some go∧Ok σ2∧Qi ex σ1 σ2∧KN xA σ2∧K go xA σ2:=by
 unfold H8 at h;unfold lg pg;split at h
 ·rename_i hg;rw [hg];obtain ⟨σ1,σ2,h1,h2,h3,h4,h5⟩:=KG hI hT hσ hk h;rw [u7] at h5;exact ⟨σ1,σ2,true,_,h1,rfl,h2,h3,h4,h5⟩
 ·rename_i j want hg;rw [hg];simp only [];split at h
  ·exact h.elim
  rename_i t ht;rw [ht];simp only [];have hsk:∀{kn:Kn},KN kn σ->(Ym o.dst σ fun τ=>Hz kn o.dst fun kn=>K false kn τ)->∃σ1 σ2 go xA,some (Cj o σ)=some σ1∧some false=some go∧Ok σ2∧Qi ex σ1 σ2∧KN xA σ2∧K go xA σ2:=by intro kn hk h;change (wX σ.tm o.dst (.bX []) fun tm=>Hz kn o.dst fun kn=>K false kn ⟨tm,σ.bx⟩) at h;rw [nW,u7] at h;exact ⟨_,_,_,_,rfl,rfl,(Bo hσ hk).1,.inl rfl,(Bo hσ hk).2,h⟩
  split at h
  ·rename_i b hb;have hgt:get σ.tm t=.bool b:=hk (.tmp t) b hb;rw [hgt];simp only [];split at h
   ·rename_i e;rw [e];obtain ⟨σ1,σ2,h1,h2,h3,h4,h5⟩:=KG hI hT hσ hk h;rw [u7] at h5;exact ⟨σ1,σ2,true,_,h1,rfl,h2,h3,h4,h5⟩
   ·rename_i e;rw [e];exact hsk hk h
  ·split at h
   ·rename_i b hb;rw [hb];simp only [];by_cases e:b=want
    ·rw [show (b==want)=true from by rw [e];exact beq_self_eq_true want];obtain ⟨σ1,σ2,h1,h2,h3,h4,h5⟩:=KG hI hT hσ (hk.cons (by rw [hb,e])) (h.1 e);rw [u7] at h5;exact ⟨σ1,σ2,true,_,h1,rfl,h2,h3,h4,h5⟩
    ·have e2:b=(!want):=by cases b<;>cases want<;>first|rfl|exact absurd rfl e
     rw [show (b==want)=false from by rw [e2];cases want<;>rfl];exact hsk (hk.cons (by rw [hb,e2])) (h.2 e2)
   ·rename_i hb;rw [hb];exact hsk hk h
   ·exact h.elim
def aC.OK (P:Program) (f:Nat) (c:aC):Prop:=∀args bx K0,c args bx K0->∃r bx',aW P f args bx r bx'∧wv r=true∧aV bx'=true∧∀K,c args bx K->K r bx'
def af (P:Program) (sp:Sp):Prop:=∀f c,assoc sp f=some c->∀args bx K0,gZ args=true->c (oO args) bx K0->∃r bx',aW P f args bx r bx'∧wv r=true∧aV bx'=true∧∀K,c (oO args) bx K->K r bx'
theorem qC {P:Program} {sp:Sp} (h:af P sp):∃cal,eT P cal∧Is sp cal:=by
 classical
 refine ⟨fun f args bx=>match assoc sp f with
  |some c=>if hh:∃p:AV×List (List AV),aW P f args bx p.1 p.2∧wv p.1=true∧aV p.2=true∧∀K,c (oO args) bx K->K p.1 p.2 then some (Classical.choose hh) else none
  |none=>none,fun f args bx r bx' hc=>?_,fun f c hc args bx K0 hw hK=>?_⟩
 ·dsimp only at hc;split at hc
  ·rename_i c hcf;split at hc
   ·rename_i hh;have:=(Classical.choose_spec hh).1;rw [Option.some.inj hc] at this;exact this
   ·cases hc
  ·cases hc
 ·obtain ⟨r,bx',h1,h2,h3,h4⟩:=h f c hc args bx K0 hw hK;have hh:∃p:AV×List (List AV),aW P f args bx p.1 p.2∧wv p.1=true∧aV p.2=true∧∀K,c (oO args) bx K->K p.1 p.2:=⟨(r,bx'),h1,h2,h3,h4⟩;obtain ⟨g1,g2,g3,g4⟩:=Classical.choose_spec hh;refine ⟨(Classical.choose hh).1,(Classical.choose hh).2,?_,g2,g3,g4⟩;dsimp only;rw [hc];exact dif_pos hh
def EX (P:Program) (n0 base:Nat) (c:Code) (σ:aJ) (e:wL) (τ:aJ):Prop:=
 ∀{m:Nat->Prop} {lim:Nat->Nat} {bs:List Nat} {w:World} {a:Act} {Q:Exit->Act->World->Prop},n0<=a.tmps.size->base<=σ.bx.length->aM lim bs w σ.bx (Sl σ.tm a) m->(∀b,w.heap.size<=b->m b)->jE base m lim bs w a τ (Q (Py e))->c.wp P Q a w
def WP (P:Program) (n0 base:Nat) (c:Code) (σ:aJ) (Q:wL->aJ->Prop):Prop:=jA n0 c=true->Ok σ->∃e τ,EX P n0 base c σ e τ∧Ok τ∧Q e τ
variable {P : Program} {T : jL} {sp : Sp} {n0 base : Nat} {σ τ : aJ} {Q : wL -> aJ -> Prop}
theorem hlen {m:Nat->Prop} {lim lim':Nat->Nat} {bs bs':List Nat} {w w':World} {a a':Act} (hb:base<=σ.bx.length) (H:aM lim bs w σ.bx (Sl σ.tm a) m) (hgo:oz base m lim bs w a τ lim' bs' w' a'):base<=τ.bx.length:=by have:=qp (by rw [H.len];exact hb) hgo.pre;rw [hgo.hold.len] at this;exact this
theorem WP.skip (h:Q .normal σ):WP P n0 base .skip σ Q:=fun hg hσ=>⟨.normal,σ,fun hn hb H hm hK=>wp_skip (hK _ _ _ _ ⟨H,Fr.refl,fun _ _ _ h=>h,rfl,rfl⟩),hσ,h⟩
theorem WP.exit {i:Nat} (h:Q (.exit i) σ):WP P n0 base (.exit i) σ Q:=fun hg hσ=>⟨.exit i,σ,fun hn hb H hm hK=>wp_exit (hK _ _ _ _ ⟨H,Fr.refl,fun _ _ _ h=>h,rfl,rfl⟩),hσ,h⟩
theorem WP.ret (h:Q .ret σ):WP P n0 base .ret σ Q:=fun hg hσ=>⟨.ret,σ,fun hn hb H hm hK=>wp_ret (hK _ _ _ _ ⟨H,Fr.refl,fun _ _ _ h=>h,rfl,rfl⟩),hσ,h⟩
def QN (P:Program) (n0 base:Nat) (b:Code) (Q:wL->aJ->Prop) (e:wL) (τ:aJ):Prop:=
 match e with
 |.normal=>WP P n0 base b τ Q
 |e=>Q e τ
theorem WP.seq {x y:Code} (h:WP P n0 base x σ (QN P n0 base y Q)):WP P n0 base (.seq x y) σ Q:=by
 intro hg hσ;rw [jA,Bool.and_eq_true] at hg;obtain ⟨e,τ,h1,h2,h3⟩:=h hg.1 hσ;cases e with
 |normal=>
  obtain ⟨e',τ',k1,k2,k3⟩:=h3 hg.2 h2;refine ⟨e',τ',fun hn hb H hm hK=>wp_seq (h1 hn hb H hm fun dN jZ w1 a1 hgo=>?_),k2,k3⟩;exact k1 (by rw [hgo.nt];exact hn) (hlen hb H hgo) hgo.hold (fun b hb=>hm b (Nat.le_trans hgo.fr.qJ.size hb)) (fun gI qN w2 a2 hg2=>hK gI qN w2 a2 (hgo.trans hg2))
 |exit i=>exact ⟨.exit i,τ,fun hn hb H hm hK=>wp_seq (h1 hn hb H hm fun dN jZ w1 a1 hgo=>hK dN jZ w1 a1 hgo),h2,h3⟩
 |ret=>exact ⟨.ret,τ,fun hn hb H hm hK=>wp_seq (h1 hn hb H hm fun dN jZ w1 a1 hgo=>hK dN jZ w1 a1 hgo),h2,h3⟩
def Ud (P:Program) (n0 base:Nat) (x y:Code) (σ:aJ) (Q:wL->aJ->Prop) (v:AV):Prop:=
 match v with
 |.bool t=>(t=true->WP P n0 base x σ Q)∧(t=false->WP P n0 base y σ Q)
 |_=>False
theorem WP.cond {x:Operand} {y z:Code} (h:Ud P n0 base y z σ Q (val σ.tm x)):WP P n0 base (.cond x y z) σ Q:=by
 intro hg hσ;rw [jA,Bool.and_eq_true] at hg;unfold Ud at h;split at h
 ·rename_i t ht;cases t with
  |true=>
   obtain ⟨e,τ,h1,h2,h3⟩:=h.1 rfl hg.1 hσ;exact ⟨e,τ,fun hn hb H hm hK=>wp_cond (kM x H ht) (h1 hn hb H hm hK),h2,h3⟩
  |false=>
   obtain ⟨e,τ,h1,h2,h3⟩:=h.2 rfl hg.2 hσ;exact ⟨e,τ,fun hn hb H hm hK=>wp_cond (kM x H ht) (h1 hn hb H hm hK),h2,h3⟩
 ·exact h.elim
def G9 (i:Nat) (Q:wL->aJ->Prop) (e:wL) (τ:aJ):Prop:=
 match e with
 |.exit j=>
  match Nat.beq j i with
  |true=>Q .normal τ
  |false=>Q (.exit j) τ
 |e=>Q e τ
theorem WP.block {i:Nat} {x:Code} (h:WP P n0 base x σ (G9 i Q)):WP P n0 base (.block i x) σ Q:=by
 intro hg hσ;rw [jA] at hg;obtain ⟨e,τ,h1,h2,h3⟩:=h hg hσ;cases e with
 |normal=>exact ⟨.normal,τ,fun hn hb H hm hK=>wp_block (h1 hn hb H hm fun dN jZ w1 a1 hgo=>hK dN jZ w1 a1 hgo),h2,h3⟩
 |ret=>exact ⟨.ret,τ,fun hn hb H hm hK=>wp_block (h1 hn hb H hm fun dN jZ w1 a1 hgo=>hK dN jZ w1 a1 hgo),h2,h3⟩
 |exit j=>
  unfold G9 at h3;simp only [] at h3;by_cases hj:j=i
  ·rw [hj,qF] at h3;refine ⟨.normal,τ,fun {m lim bs w a R} hn hb H hm hK=>wp_block (h1 hn hb H hm fun dN jZ w1 a1 hgo=>?_),h2,h3⟩;show if j=i then R .normal a1 w1 else R (.exit j) a1 w1;rw [if_pos hj];exact hK dN jZ w1 a1 hgo
  ·rw [DF hj] at h3;refine ⟨.exit j,τ,fun {m lim bs w a R} hn hb H hm hK=>wp_block (h1 hn hb H hm fun dN jZ w1 a1 hgo=>?_),h2,h3⟩;show if j=i then R .normal a1 w1 else R (.exit j) a1 w1;rw [if_neg hj];exact hK dN jZ w1 a1 hgo
def Rx (base:Nat) (σ τ:aJ):Prop:=Ok σ->Ok τ∧∀{m:Nat->Prop} {lim:Nat->Nat} {bs:List Nat} {w:World} {a:Act},base<=σ.bx.length->aM lim bs w σ.bx (Sl σ.tm a) m->∃lim' bs',aM lim' bs' w τ.bx (Sl τ.tm a) m∧Fr m lim w lim' w∧∀(i b:Nat),i<base->bs[i]?=some b->bs'[i]?=some b
theorem Rx.refl:Rx base σ σ:=fun h=>⟨h,fun _ H=>⟨_,_,H,Fr.refl,fun _ _ _ h=>h⟩⟩
theorem Rx.trans {σ1 σ2 σ3:aJ} (h:Rx base σ1 σ2) (k:Rx base σ2 σ3):Rx base σ1 σ3:=by
 intro hσ;obtain ⟨h1,h2⟩:=h hσ;obtain ⟨k1,k2⟩:=k h1;refine ⟨k1,fun {m lim bs w a} hb H=>?_⟩;obtain ⟨dN,jZ,g1,g2,g3⟩:=h2 hb H;have hb1:base<=σ2.bx.length:=by have:=qp (by rw [H.len];exact hb) g3;rw [g1.len] at this;exact this
 obtain ⟨gI,qN,e1,e2,e3⟩:=k2 hb1 g1;exact ⟨gI,qN,e1,g2.trans e2,fun i b hi hbb=>e3 i b hi (g3 i b hi hbb)⟩
theorem WP.jB {c:Code} (hr:Rx base σ τ) (h:WP P n0 base c τ Q):WP P n0 base c σ Q:=by intro hg hσ;obtain ⟨r1,r2⟩:=hr hσ;obtain ⟨e,ρ,h1,h2,h3⟩:=h hg r1;refine ⟨e,ρ,fun hn hb H hm hK=>?_,h2,h3⟩;obtain ⟨lim',bs',g1,g2,g3⟩:=r2 hb H;have hgo:oz base _ _ _ _ _ τ lim' bs' _ _:=⟨g1,g2,g3,rfl,rfl⟩;exact h1 hn (hlen hb H hgo) g1 hm (fun gI qN w2 a2 hg2=>hK gI qN w2 a2 (hgo.trans hg2))
theorem WP.Gb {c:Code} (h:WP P n0 base c σ fun e τ=>∃τ',Rx base τ τ'∧Q e τ'):WP P n0 base c σ Q:=by intro hg hσ;obtain ⟨e,ρ,h1,h2,τ',h3,h4⟩:=h hg hσ;obtain ⟨r1,r2⟩:=h3 h2;refine ⟨e,τ',fun hn hb H hm hK=>h1 hn hb H hm fun dN jZ w1 a1 hgo=>?_,r1,h4⟩;obtain ⟨lim',bs',g1,g2,g3⟩:=r2 (hlen hb H hgo) hgo.hold;exact hK lim' bs' w1 a1 (hgo.trans ⟨g1,g2,g3,rfl,rfl⟩)
theorem WP.mono {c:Code} {R:wL->aJ->Prop} (h:WP P n0 base c σ R) (hm:∀e τ,R e τ->Q e τ):WP P n0 base c σ Q:=by intro hg hσ;obtain ⟨e,τ,h1,h2,h3⟩:=h hg hσ;exact ⟨e,τ,h1,h2,hm e τ h3⟩
def NH (base:Nat) (I:Nat->aJ->Prop) (k:Nat) (Q:wL->aJ->Prop) (e:wL) (τ:aJ):Prop:=
 match e with
 |.normal=>∃j τ',j<k∧Rx base τ τ'∧I j τ'
 |e=>Q e τ
theorem WP.loop {x:Code} (I:Nat->aJ->Prop) {k:Nat} (h0:I k σ) (h:∀k τ,I k τ->WP P n0 base x τ (NH base I k Q)):WP P n0 base (.loop x) σ Q:=by
 intro hg hσ;rw [jA] at hg
 suffices hs:∀(k:Nat) (σ:aJ),Ok σ->I k σ->∃e τ N,Ok τ∧Q e τ∧∀{m:Nat->Prop} {lim:Nat->Nat} {bs:List Nat} {w:World} {a:Act} {Q:Exit->Act->World->Prop},n0<=a.tmps.size->base<=σ.bx.length->aM lim bs w σ.bx (Sl σ.tm a) m->(∀b,w.heap.size<=b->m b)->jE base m lim bs w a τ (Q (Py e))->Code.rounds P x Q N a w by obtain ⟨e,τ,N,h1,h2,h3⟩:=hs k σ hσ h0;exact ⟨e,τ,fun hn hb H hm hK=>wp_loop_rounds N (h3 hn hb H hm hK),h1,h2⟩
 intro k
 induction k using Nat.strongRecOn with
 |_ k ih=>
  intro σ hσ hI;obtain ⟨e,τ,h1,h2,h3⟩:=h k σ hI hg hσ;cases e with
  |normal=>
   obtain ⟨j,τ',hj,hr,hIj⟩:=h3;obtain ⟨r1,r2⟩:=hr h2;obtain ⟨e',ρ,N,g1,g2,g3⟩:=ih j hj τ' r1 hIj;refine ⟨e',ρ,N+1,g1,g2,fun {m lim bs w a R} hn hb H hm hK=>?_⟩;show x.wp P (Exit.then (Code.rounds P x R N) R) a w;refine h1 hn hb H hm fun dN jZ w1 a1 hgo=>?_;show Code.rounds P x R N a1 w1;obtain ⟨lim',bs',q1,q2,q3⟩:=r2 (hlen hb H hgo) hgo.hold;have Tk:=hgo.trans (oz.mk q1 q2 q3 rfl rfl);exact g3 (Q:=R) (by rw [hgo.nt];exact hn) (hlen hb H Tk) q1 (fun b hb=>hm b (Nat.le_trans hgo.fr.qJ.size hb)) (fun gI bs3 w2 a2 hg2=>hK gI bs3 w2 a2 (Tk.trans hg2))
  |exit i=>
   refine ⟨.exit i,τ,1,h2,h3,fun {m lim bs w a R} hn hb H hm hK=>?_⟩;show x.wp P (Exit.then (Code.rounds P x R 0) R) a w;exact h1 hn hb H hm fun dN jZ w1 a1 hgo=>hK dN jZ w1 a1 hgo
  |ret=>
   refine ⟨.ret,τ,1,h2,h3,fun {m lim bs w a R} hn hb H hm hK=>?_⟩;show x.wp P (Exit.then (Code.rounds P x R 0) R) a w;exact h1 hn hb H hm fun dN jZ w1 a1 hgo=>hK dN jZ w1 a1 hgo
theorem WP.mk {c:Code} (h:jA n0 c=true->Ok σ->∃e τ,EX P n0 base c σ e τ∧Ok τ∧Q e τ):WP P n0 base c σ Q:=h
theorem WP.out {c:Code} (h:WP P n0 base c σ Q):jA n0 c=true->Ok σ->∃e τ,EX P n0 base c σ e τ∧Ok τ∧Q e τ:=h
attribute [irreducible] WP
end V
namespace V
open Ab
variable {P : Program} {T : jL} {sp : Sp} {n0 base : Nat} {σ τ : aJ} {Q : wL -> aJ -> Prop} {cal : xR}
def ZT (sp:Sp) (T:jL) (md:Md) (all:List Oper) (kn:Kn) (o:Oper) (σ:aJ) (K:Kn->aJ->Prop):Prop:=
 match o.op with
 |.call c=>
  match BH c with
  |some (x,y,t)=>
   match o.dst with
   |some d=>
    match mem d md.arr with
    |true=>
     match o.guard with
     |none=>∃τ,vJ T md d σ x y t=some τ∧Ok τ∧Go (K [] τ)
     |some _=>False
    |false=>H8 sp false T md all kn o σ fun _ kn τ=>K kn τ
   |none=>H8 sp false T md all kn o σ fun _ kn τ=>K kn τ
  |none=>H8 sp false T md all kn o σ fun _ kn τ=>K kn τ
 |_=>H8 sp false T md all kn o σ fun _ kn τ=>K kn τ
theorem KN.nil (σ:aJ):KN [] σ:=by intro x b h;cases x<;>cases h
theorem Vk (hI:Is sp cal) (hT:rC T) {md:Md} {all:List Oper} {kn:Kn} {o:Oper} {K:Kn->aJ->Prop} (hσ:Ok σ) (hk:KN kn σ) (h:ZT sp T md all kn o σ K):∃σ1 σ2 xA,uM cal T md all o σ=some σ1∧Ok σ2∧Qi false σ1 σ2∧KN xA σ2∧K xA σ2:=by
 have hG:(H8 sp false T md all kn o σ fun _ kn τ=>K kn τ)->∃σ1 σ2 xA,lg cal T md all o σ=some σ1∧Ok σ2∧Qi false σ1 σ2∧KN xA σ2∧K xA σ2:=by intro h;obtain ⟨σ1,σ2,go,xA,h1,h2,h3,h4,h5,h6⟩:=MP hI hT hσ hk h;exact ⟨σ1,σ2,xA,h1,h3,h4,h5,h6⟩
 unfold ZT at h;unfold uM;split at h
 ·rename_i c hc;rw [hc];simp only [];split at h
  ·rename_i x y t hap;rw [hap];simp only [];split at h
   ·rename_i d hd;rw [hd];simp only [];split at h
    ·rename_i hm;rw [hm];simp only [];split at h
     ·rename_i hg;rw [hg];obtain ⟨τ,h1,h2,h3⟩:=h;exact ⟨τ,τ,[],h1,h2,.inl rfl,KN.nil τ,h3⟩
     ·exact h.elim
    ·rename_i hm;rw [hm];exact hG h
   ·rename_i hd;rw [hd];exact hG h
  ·rename_i hap;rw [hap];exact hG h
 ·rename_i hno;split
  ·rename_i c hc;exact absurd hc (hno c)
  ·exact hG h
def ZR (sp:Sp) (T:jL) (md:Md) (all:List Oper):List Oper->Kn->aJ->(aJ->Prop)->Prop
 |[],_,σ,K=>K σ
 |o::r,kn,σ,K=>ZT sp T md all kn o σ fun kn τ=>ZR sp T md all r kn τ K
theorem Qi.hold {ex:Bool} {m:Nat->Prop} {lim:Nat->Nat} {bs:List Nat} {w:World} {a:Act} (h:Qi ex σ τ) (H:aM lim bs w σ.bx (Sl σ.tm a) m):aM lim bs w τ.bx (Sl τ.tm a) m:=by
 rcases h with rfl|⟨-,tm,d,e,z,b,rfl,rfl⟩
 ·exact H
 ·have hg:∀(v:AV) (k:Nat),Sl (put tm d v) a k=if k=d then (v,a.tmps.getD k undef) else Sl tm a k:=by intro v k;unfold Sl;rw [ah];split<;>rfl
  have h0:AV.R lim bs w .nil (a.tmps.getD d undef):=by have:=H.slot d;rw [show (Sl (put tm d AV.nil) a d)=(AV.nil,a.tmps.getD d undef) from by rw [hg,if_pos rfl]] at this;exact this
  rw [AV.R] at h0;have ho:∀p g,Ab.Own w bs b (Sl (put tm d (.row e z 0 [])) a) p g->Ab.Own w bs b (Sl (put tm d .nil) a) p g:=by
   intro p g hp;cases p with
   |b i j=>exact hp
   |t k=>
    obtain ⟨h1,h2⟩:=hp;rw [hg] at h1 h2;by_cases hk:k=d
    ·subst hk;rw [if_pos rfl] at h2;have h2:(a.tmps.getD k undef).ownBlock=some g:=h2;rw [h0] at h2;cases h2
    ·rw [if_neg hk] at h1 h2;exact ⟨by rw [hg,if_neg hk];exact h1,by rw [hg,if_neg hk];exact h2⟩
  refine ⟨H.len,H.xV,H.free,H.mb,H.box,fun k=>?_,fun k=>?_,H.top,fun p g hp=>H.own p g (ho p g hp),fun p q g hp hq=>H.nK p q g (ho p g hp) (ho q g hq)⟩
  ·have:=H.slot k;rw [hg] at this⊢;by_cases hk:k=d
   ·subst hk;rw [if_pos rfl];show AV.R lim bs w (.row e z 0 []) _;rw [AV.R];exact ⟨by simp,rfl,.inl ⟨h0,rfl⟩⟩
   ·rw [if_neg hk] at this⊢;exact this
  ·have:=H.jm k;rw [hg] at this⊢;by_cases hk:k=d
   ·rw [if_pos hk];rfl
   ·rw [if_neg hk] at this⊢;exact this
theorem Qi.go {ex:Bool} {n:Nat} {m:Nat->Prop} {lim lim':Nat->Nat} {bs bs':List Nat} {w w':World} {a a':Act} {ρ:aJ} (h:Qi ex σ τ) (hg:oz n m lim bs w a σ lim' bs' w' a'):oz n m lim bs w a τ lim' bs' w' a':=⟨h.hold hg.hold,hg.fr,hg.pre,hg.nt,hg.df⟩
theorem MO (HT:kN P T) (HC:eT P cal) (hI:Is sp cal) (hT:rC T) {ops:Array Oper} {md:Md} {K:aJ->Prop}:∀(l:List Oper) {kn:Kn} {σ:aJ},Ok σ->KN kn σ->ZR sp T md ops.toList l kn σ K->∃τ,Ok τ∧K τ∧∀{m:Nat->Prop} {lim:Nat->Nat} {bs:List Nat} {w:World} {a:Act} {Q:Exit->Act->World->Prop},(∀o ∈ l,∀k,o.dst=some k->k<a.tmps.size)->aM lim bs w σ.bx (Sl σ.tm a) m->(∀b,w.heap.size<=b->m b)->jE md.base m lim bs w a τ (Q .normal)->wpList P ops Q l a w
 |[],kn,σ,hσ,hk,h=>⟨σ,hσ,h,fun hd H hm hK=>wpList_nil (hK _ _ _ _ ⟨H,Fr.refl,fun _ _ _ h=>h,rfl,rfl⟩)⟩
 |o::l,kn,σ,hσ,hk,h=>by obtain ⟨σ1,σ2,xA,h1,h2,h3,h4,h5⟩:=Vk (cal:=cal) hI hT hσ hk h;obtain ⟨τ,g1,g2,g3⟩:=MO HT HC hI hT l h2 h4 h5;refine ⟨τ,g1,g2,fun hd H hm hK=>wpList_step fun K' hK'=>?_⟩;refine zK HT HC H hm (fun k hk=>hd o List.mem_cons_self k hk) h1 (fun dN jZ w1 a2 hg=>hK' a2 w1 ?_);have hg:=h3.go (ρ:=σ) hg;exact g3 (fun o ho k hk=>by rw [hg.nt];exact hd o (List.mem_cons_of_mem _ ho) k hk) hg.hold (fun b hb=>hm b (Nat.le_trans hg.fr.qJ.size hb)) (fun gI qN w2 a3 hg2=>hK gI qN w2 a3 (hg.trans hg2))
theorem qx {i:Nat} {ops:Array Oper} {draw:Bool} (hg:jA n0 (.region i ops draw)=true) {a:Act} (hn:n0<=a.tmps.size):∀o ∈ ops.toList,∀d,o.dst=some d->d<a.tmps.size:=by rw [jA,Bool.and_eq_true] at hg;intro o ho d hd;have h1:=hg.1;rw [List.all_eq_true] at h1;have:=h1 o ho;rw [hd] at this;simp only [decide_eq_true_eq] at this;exact Nat.lt_of_lt_of_le this hn
def Ml (live:List Nat) (Q:wL->aJ->Prop) (τ:aJ):Prop:=
 match τ with
 |⟨tm,bx⟩=>Gf live tm fun tm=>Q .normal ⟨tm,bx⟩
structure Aj (P:Program) (T:jL) (sp:Sp):Prop where
 tok:kN P T
 well:rC T
 sp:af P sp
def VZ:List Oper->(List Oper->Prop)->Prop
 |[],K=>K []
 |o::r,K=>VZ r fun r=>K (o::r)
theorem CB:∀(l:List Oper) (K:List Oper->Prop),VZ l K=K l
 |[],_=>rfl
 |o::r,K=>by rw [VZ,CB r]
theorem WP.oC (B:Aj P T sp) (an:zy) {i:Nat} {ops:Array Oper} (h:VZ ops.toList fun all=>xW (ow all++an.ZF) fun ad=>xW an.arr fun arr=>xW (an.live.getD i []) fun live=>ZR sp T ⟨ad,arr,base⟩ all all [] σ (Ml live Q)):WP P n0 base (.region i ops false) σ Q:=by refine WP.mk fun hg hσ=>?_;obtain ⟨cal,HC,hI⟩:=qC B.sp;rw [CB,ky,ky,ky] at h;obtain ⟨τ,g1,g2,g3⟩:=MO B.tok HC hI B.well ops.toList hσ (KN.nil σ) h;change (Gf (an.live.getD i []) τ.tm fun tm=>Q .normal ⟨tm,τ.bx⟩) at g2;rw [wh] at g2;refine ⟨.normal,⟨prune (an.live.getD i []) τ.tm,τ.bx⟩,fun hn hb H hm hK=>?_,⟨gV _ g1.tm,g1.bx⟩,g2⟩;exact wp_region_list (g3 (qx hg hn) H hm fun lim' bs' w' a' hgo=>hK lim' bs' w' a' ⟨hgo.hold.prune _,hgo.fr,hgo.pre,hgo.nt,hgo.df⟩)
def ldG (T:jL) (ad:List Nat) (go:Bool) (o:Oper) (σ:aJ):Option (Nat×Nat×Nat):=
 match go with
 |true=>
  match o.op with
  |.load t a=>
   match gJ ad o.dst with
   |true=>none
   |false=>
    match val σ.tm a with
    |.ptr i c=>
     match T t with
     |some d=>some (i,c,if d.agg=true then d.size else 1)
     |none=>none
    |_=>none
  |_=>none
 |false=>none
def Vw (go:Bool) (o:Oper) (σ:aJ):List Nat:=
 match go with
 |true=>Ir (val σ.tm) σ.bx o.op
 |false=>[]
def PZ (T:jL) (ad:List Nat) (go:Bool) (k:Nat) (o:Oper) (σ τ:aJ):gU:=
 ⟨k,Vw go o σ++news σ.bx.length τ.bx.length,jO ad o,!Nat.ble τ.bx.length σ.bx.length,ldG T ad go o σ,if jO ad o=true then Ae σ τ (Vw go o σ) else []⟩
theorem Oz {ad:List Nat} {all:List Oper} {go:Bool} {k:Nat} {o:Oper} (hσ:Ok σ) (hg:pg all o σ=some go):iH T ad all k o σ τ=PZ T ad go k o σ τ:=by
 have h1:dJ all o σ=Vw go o σ:=by
  unfold dJ Vw;rw [hg];cases go with
  |true=>exact yg (oD hσ.tm) hσ.bx o.op
  |false=>rfl
 unfold iH PZ;rw [h1];congr 1;unfold wO ldG;rw [hg];cases go<;>rfl
def Qs (sp:Sp) (T:jL) (md:Md) (all:List Oper):List (Nat×Oper)->Kn->aJ->List gU->(List gU->aJ->Prop)->Prop
 |[],_,σ,A,K=>K A σ
 |(k,o)::r,kn,σ,A,K=>H8 sp true T md all kn o σ fun go kn τ=>
  match (PZ T md.ad go k o σ τ).ids.isEmpty && !(PZ T md.ad go k o σ τ).al with
  |true=>Qs sp T md all r kn τ A K
  |false=>Qs sp T md all r kn τ (A++[PZ T md.ad go k o σ τ]) K
theorem FV (hI:Is sp cal) (hT:rC T) {md:Md} {all:List Oper} {K:List gU->aJ->Prop}:∀(l:List (Nat×Oper)) {kn:Kn} {σ:aJ} {A:List gU},Ok σ->KN kn σ->Qs sp T md all l kn σ A K->∃B τ,rO cal T all md l σ=some (B,τ)∧Ok τ∧K (A++B) τ
 |[],kn,σ,A,hσ,hk,h=>⟨[],σ,rfl,hσ,by rw [List.append_nil];exact h⟩
 |(k,o)::r,kn,σ,A,hσ,hk,h=>by
  rw [Qs] at h;obtain ⟨σ1,σ2,go,xA,h1,h2,h3,h4,h5,h6⟩:=MP (cal:=cal) hI hT hσ hk h;have:σ2=σ1:=by
   rcases h4 with e|⟨e,-⟩
   ·exact e
   ·cases e
  subst this;split at h6
  ·rename_i hn;obtain ⟨B,τ,g1,g2,g3⟩:=FV hI hT r h3 h5 h6;refine ⟨B,τ,?_,g2,g3⟩;rw [rO,h1];simp only [];rw [g1];simp only [];rw [Oz hσ h2,dV,if_pos hn]
  ·rename_i hn;obtain ⟨B,τ,g1,g2,g3⟩:=FV hI hT r h3 h5 h6;refine ⟨PZ T md.ad go k o σ σ2::B,τ,?_,g2,by rw [List.append_assoc] at g3;exact g3⟩;rw [rO,h1];simp only [];rw [g1];simp only [];rw [Oz hσ h2,dV,if_neg (by rw [hn];simp)]
def wY (a b:gU):Prop:=
 match a.ld with
 |some (i,o,n)=>
  match assoc b.ch i with
  |some (c,c')=>c.length=c'.length∧(c.drop o).take n=(c'.drop o).take n
  |none=>False
 |none=>
  match b.ld with
  |some (i,o,n)=>
   match assoc a.ch i with
   |some (c,c')=>c.length=c'.length∧(c.drop o).take n=(c'.drop o).take n
   |none=>False
  |none=>False
def Lp (an:List Nat) (a:gU):List gU->Prop
 |[]=>True
 |b::l=>
  match (an.getD b.at_ 0).testBit a.at_||!(((a.wr||b.wr) && meets a.ids b.ids)||(a.al && b.al)) with
  |true=>Lp an a l
  |false=>
   match a.al && b.al with
   |true=>False
   |false=>wY a b∧Lp an a l
def Li (an:List Nat):List gU->Prop
 |[]=>True
 |a::l=>Lp an a l∧Li an l
mutual
theorem beq_refl:∀(x:AV),beq x x=true
 |.bool a=>by simp [beq]
 |.int k a=>by simp [beq]
 |.str a=>by simp [beq]
 |.ptr i o=>by simp [beq]
 |.nil=>rfl
 |.sl n l=>by rw [beq,l5 l];simp
 |.row e z n l=>by rw [beq,l5 l];simp
 |.el l=>by rw [beq,l5 l]
 |.agg l=>by rw [beq,l5 l]
 |.bX l=>by rw [beq,l5 l]
 |.fn f l=>by rw [beq,l5 l];simp
 |.nz k=>by simp [beq]
 |.nP k=>by simp [beq]
 |.low k d m=>by simp [beq]
 |.bU i e z n=>by simp [beq]
 |.bad=>rfl
theorem l5:∀(l:List AV),xN l l=true
 |[]=>rfl
 |x::l=>by rw [xN,beq_refl x,l5 l];rfl
end
theorem NG {a b:gU} (h:wY a b):(a.uJ b||b.uJ a)=true:=by
 have key:∀{a b:gU} {i o n:Nat},a.ld=some (i,o,n)->(match assoc b.ch i with|some (c,c')=>c.length=c'.length∧(c.drop o).take n=(c'.drop o).take n|none=>False)->a.uJ b=true:=by
  intro a b i o n h1 h2;unfold gU.uJ;rw [h1];simp only [];split at h2
  ·rename_i c c' hc;rw [hc];simp only [];rw [h2.1,h2.2,l5,qF];rfl
  ·exact h2.elim
 unfold wY at h;split at h
 ·rename_i i o n hl;rw [key hl h];rfl
 ·split at h
  ·rename_i i o n hl;rw [key hl h,Bool.or_true]
  ·exact h.elim
theorem Gm {an:List Nat} {a:gU}:∀{l:List gU},Lp an a l->(l.all fun b=>(an.getD b.at_ 0).testBit a.at_||!a.kF b||yL none a.at_ b.at_)=true
 |[],_=>rfl
 |b::l,h=>by
  rw [Lp] at h;rw [List.all_cons];split at h
  ·rename_i hc;rw [Gm h,Bool.and_true];rw [Bool.or_eq_true] at hc;rcases hc with hc|hc
   ·rw [hc];rfl
   ·have:a.kF b=false:=by unfold gU.kF;rw [Bool.not_eq_true'] at hc;rw [Bool.or_eq_false_iff] at hc;rw [hc.2];rw [hc.1];rfl
    rw [this];simp
  ·split at h
   ·exact h.elim
   ·rename_i hal;rw [Gm h.2,Bool.and_true];have:a.kF b=false:=by unfold gU.kF;rw [hal,NG h.1];simp
    rw [this];simp
theorem EZ {an:List Nat}:∀{l:List gU},Li an l->qX an none l=true
 |[],_=>rfl
 |a::l,h=>by rw [qX,Gm h.1,EZ h.2];rfl
def bef (all:List Oper):Nat->Nat->Nat->Bool
 |0,_,_=>false
 |n+1,a,b=>
  match all[b]? with
  |some o=>mem a (dx o)||(dx o).any fun c=>bef all n a c
  |none=>false
theorem ME {all:List Oper} (hp:∀(j:Nat) (o:Oper),all[j]?=some o->∀i ∈ dx o,i<j):∀(n:Nat) {a b:Nat},bef all n a b=true->((iW [] all).getD b 0).testBit a=true
 |0,a,b,h=>by cases h
 |n+1,a,b,h=>by
  rw [bef] at h;split at h
  ·rename_i o ho;obtain ⟨-,h2⟩:=wH all [];obtain ⟨Hf,g1,g2,g3⟩:=h2 b o ho;simp only [List.length_nil,Nat.zero_add] at g1 g3;rw [List.getD_eq_getElem?_getD,g3,Option.getD_some,qh];rw [Bool.or_eq_true] at h;rcases h with h|h
   ·exact ⟨a,mem_iff.1 h,.inl rfl⟩
   ·obtain ⟨c,hc,h⟩:=List.any_eq_true.1 h;have hcb:c<b:=hp b o ho c hc;refine ⟨c,hc,.inr ?_⟩;have:=ME hp n h;rw [List.getD_eq_getElem?_getD,←g2 c oM,←List.getD_eq_getElem?_getD];exact this
  ·cases h
def RS (all:List Oper) (a:gU):List gU->Prop->Prop
 |[],R=>R
 |b::l,R=>
  match !(((a.wr||b.wr) && meets a.ids b.ids)||(a.al && b.al))||bef all 3 a.at_ b.at_ with
  |true=>RS all a l R
  |false=>
   match a.al && b.al with
   |true=>False
   |false=>wY a b∧Go (RS all a l R)
def Lj (all:List Oper):List gU->Prop->Prop
 |[],R=>R
 |a::l,R=>RS all a l (Lj all l R)
theorem yE {all:List Oper} (hp:∀(j:Nat) (o:Oper),all[j]?=some o->∀i ∈ dx o,i<j) {a:gU}:∀{l:List gU} {R:Prop},RS all a l R->Lp (iW [] all) a l∧R
 |[],R,h=>⟨trivial,h⟩
 |b::l,R,h=>by
  rw [RS] at h;rw [Lp];split at h
  ·rename_i hc;have hc2:((iW [] all).getD b.at_ 0).testBit a.at_||!(((a.wr||b.wr) && meets a.ids b.ids)||(a.al && b.al)):=by
    rw [Bool.or_eq_true] at hc;rcases hc with hc|hc
    ·rw [hc,Bool.or_true]
    ·rw [ME hp 3 hc];rfl
   rw [hc2];exact yE hp h
  ·split at h
   ·exact h.elim
   ·rename_i hal;refine ⟨?_,(yE hp h.2).2⟩;split
    ·exact (yE hp h.2).1
    ·exact ⟨h.1,(yE hp h.2).1⟩
theorem E5 {all:List Oper} (hp:∀(j:Nat) (o:Oper),all[j]?=some o->∀i ∈ dx o,i<j):∀{l:List gU} {R:Prop},Lj all l R->Li (iW [] all) l∧R
 |[],R,h=>⟨trivial,h⟩
 |a::l,R,h=>by obtain ⟨h1,h2⟩:=yE hp h;obtain ⟨h3,h4⟩:=E5 hp h2;exact ⟨⟨h1,h3⟩,h4⟩
theorem WP.draw (B:Aj P T sp) (an:zy) {i:Nat} {ops:Array Oper} (h:VZ ops.toList fun all=>xW (ow all) fun ad=>xW an.arr fun arr=>xW (an.live.getD i []) fun live=>Qs sp T ⟨ad,arr,base⟩ all (dD 0 all) [] σ [] fun A τ=>Lj all A (Ml live Q τ)):WP P n0 base (.region i ops true) σ Q:=by
 refine WP.mk fun hg hσ=>?_;obtain ⟨cal,HC,hI⟩:=qC B.sp;rw [CB,ky,ky,ky] at h;obtain ⟨A,τ,g1,g2,g3⟩:=FV hI B.well _ hσ (KN.nil σ) h;rw [List.nil_append] at g3;have hko:nH ops.toList=true:=by rw [jA,Bool.and_eq_true] at hg;simpa using hg.2
 obtain ⟨g3,g4⟩:=E5 (og hko).1 g3;change (Gf (an.live.getD i []) τ.tm fun tm=>Q .normal ⟨tm,τ.bx⟩) at g4;rw [wh] at g4;have hrun:vV cal T ⟨ow ops.toList,an.arr,base⟩ ops.toList σ=some τ:=by unfold vV;rw [g1];simp only [];rw [if_pos (EZ g3)]
 refine ⟨.normal,⟨prune (an.live.getD i []) τ.tm,τ.bx⟩,fun hn hb H hm hK=>?_,⟨gV _ g2.tm,g2.bx⟩,g4⟩;refine xx (md:=⟨ow ops.toList,an.arr,base⟩) B.tok HC rfl hko (qx hg hn) H hm (Fy hrun) (fun σ' hF=>?_);subst hF;exact fun lim' bs' w' a' hgo=>hK lim' bs' w' a' ⟨hgo.hold.prune _,hgo.fr,fun i b _ hb=>hgo.pre i b hb,hgo.nt,hgo.df⟩
mutual
def pfT:AV->Bool
 |.ptr .. |.bU .. =>false
 |.agg l|.bX l|.fn _ l=>Cz l
 |_=>true
def Cz:List AV->Bool
 |[]=>true
 |v::l=>pfT v && Cz l
end
mutual
theorem Nl:∀{x:AV},wv x=true->pfT x=true->x.pf=true
 |.ptr ..,_,h=>by cases h
 |.bU ..,_,h=>by cases h
 |.bool _,_,_=>rfl
 |.int _ _,_,_=>rfl
 |.str _,_,_=>rfl
 |.nil,_,_=>rfl
 |.nz _,_,_=>rfl
 |.nP _,_,_=>rfl
 |.low _ _ _,_,_=>rfl
 |.bad,_,_=>rfl
 |.sl n l,h,_=>bE (l:=l) h
 |.row e z n l,h,_=>bE (l:=l) h
 |.el l,h,_=>bE (l:=l) h
 |.agg l,h,k=>Cy (l:=l) (Bd h) k
 |.bX l,h,k=>Cy (l:=l) (pF h) k
 |.fn f l,h,k=>Cy (l:=l) (pF h) k
theorem Cy:∀{l:List AV},gZ l=true->Cz l=true->AV.wN l=true
 |[],_,_=>rfl
 |x::l,h,k=>by rw [gZ,Bool.and_eq_true] at h;rw [Cz,Bool.and_eq_true] at k;rw [AV.wN,Nl h.1 k.1,Cy h.2 k.2];rfl
end
def Qn (T:jL) (σ:aJ) (r:ResultVar) (K:AV->Prop):Prop:=
 match r with
 |.tmp t=>hdK (get σ.tm t) K
 |.cell a t=>
  match T t with
  |none=>False
  |some d=>
   match get σ.tm a with
   |.ptr i o=>
    match σ.bx[i]? with
    |none=>False
    |some c=>
     match d.agg with
     |true=>yh d.size (c.drop o) fun l=>
      match Nat.blt 0 d.size with
      |true=>K (.agg l)
      |false=>False
     |false=>sj c o fun v=>yZ v K
   |_=>False
theorem Qm {r:ResultVar} {n:Nat} {K:AV->Prop} (hσ:Ok σ) (h:Qn T σ r K):∃v,AP T n σ r=some v∧wv v=true∧K v:=by
 unfold Qn at h;split at h
 ·rw [LU] at h;exact ⟨_,rfl,pG _ hσ.tm,h⟩
 ·rename_i a t;unfold AP;simp only [];split at h
  ·exact h.elim
  rename_i d hd;rw [hd];split at h
  ·rename_i i o ha;split at h
   ·exact h.elim
   rename_i c hc;have hcw:=bg.1 hσ.bx c (List.mem_of_getElem? hc);show ∃v,(match get σ.tm a with|.ptr i o=>eO (σ.bx[i]?) fun c=>if d.agg=true then (if o+d.size<=c.length then some (.agg (((c.drop o).take d.size).map AV.bY)) else none) else (c[o]?).map AV.bY|_=>none)=some v∧_;rw [ha];show ∃v,(eO (σ.bx[i]?) fun c=>if d.agg=true then (if o+d.size<=c.length then some (.agg (((c.drop o).take d.size).map AV.bY)) else none) else (c[o]?).map AV.bY)=some v∧_;rw [hc];show ∃v,(if d.agg=true then (if o+d.size<=c.length then some (.agg (((c.drop o).take d.size).map AV.bY)) else none) else (c[o]?).map AV.bY)=some v∧_;split at h
   ·rename_i hA;obtain ⟨h1,h3⟩:=Bj h;rw [List.length_drop] at h1;split at h3
    case h_2=>exact h3.elim
    rename_i h2;rw [UD] at h2;rw [if_pos hA,if_pos oM];exact ⟨_,rfl,FZ (Ie _ (Ig _ hcw)),h3⟩
   ·rename_i hA;obtain ⟨v,h1,h2⟩:=yG h;rw [lJ] at h2;rw [if_neg (by rw [hA];simp),h1];exact ⟨_,rfl,lK (dB.1 hcw v (List.mem_of_getElem? h1)).2,h2⟩
  ·exact h.elim
def Ez (T:jL) (σ:aJ):List ResultVar->(List AV->Prop)->Prop
 |[],K=>K []
 |r::l,K=>Qn T σ r fun v=>Ez T σ l fun vs=>K (v::vs)
theorem xZ {n:Nat} (hσ:Ok σ):∀{l:List ResultVar} {K:List AV->Prop},Ez T σ l K->∃vs,qG T n σ l=some vs∧gZ vs=true∧K vs
 |[],K,h=>⟨[],rfl,rfl,h⟩
 |r::l,K,h=>by rw [Ez] at h;obtain ⟨v,h1,h2,h3⟩:=Qm (n:=n) hσ h;obtain ⟨vs,g1,g2,g3⟩:=xZ hσ h3;refine ⟨v::vs,?_,by rw [gZ,h2,g2];rfl,g3⟩;rw [qG,h1,g1]
def VP (vs:List AV) (K:AV->Prop):Prop:=
 match vs with
 |[v]=>K v
 |vs=>JY vs fun l=>K (.bX l)
theorem F8 (vs:List AV) (K:AV->Prop):VP vs K=K (jg vs):=by
 cases vs with
 |nil=>rfl
 |cons v r=>
  cases r with
  |nil=>rfl
  |cons u r=>exact Dq _ _
theorem qd {vs:List AV} (h:gZ vs=true):wv (jg vs)=true:=by
 have hh:wv (.bX (vs.map AV.bY))=true:=x9.2 fun v hv=>by obtain ⟨u,hu,rfl⟩:=List.mem_map.1 hv;have:=iP.1 h u hu;exact ⟨lS this,lK this⟩
 unfold jg;split
 ·rw [gZ,gZ,Bool.and_true] at h;exact h
 ·exact hh
def aa9 (n:Nat) (b:List (List AV)) (l:List Nat):List Nat:=Cv 1000000 b (bW ((b.take n).flatMap id)++l) (List.range n)
def ZW (T:jL) (σ:aJ) (rs:List ResultVar) (n:Nat) (G:AV->List (List AV)->Prop):Prop:=
 Ez T σ rs fun vs=>VP vs fun v=>
  match pfT v && MI Cz (σ.bx.take n) && Nat.ble n σ.bx.length with
  |true=>AJ (σ.bx.take n) fun b=>G v b
  |false=>xW (aa9 n σ.bx (iY v)) fun ids=>
   match bn σ.bx ids with
   |none=>False
   |some cs=>
    match MI (fun c=>ym (bW c) ids) cs && ym (iY v) ids with
    |true=>Em (pY ids.idxOf v) fun v=>AJ (cs.map (fA ids.idxOf)) fun b=>G v b
    |false=>False
theorem aa8 {n:Nat} {b:List (List AV)} {l:List Nat} (h:aV b=true):lI n b l=aa9 n b l:=by
 unfold lI aa9;have:gZ ((b.take n).flatMap id)=true:=iP.2 fun v hv=>by obtain ⟨c,hc,hv⟩:=List.mem_flatMap.1 hv;exact (dB.1 (bg.1 h c (List.mem_of_mem_take hc)) v hv).2
 rw [yx h,kJ this]
theorem Vo {rs:List ResultVar} {n:Nat} {G:AV->List (List AV)->Prop} (hσ:Ok σ) (h:ZW T σ rs n G):∃Qe r b,Es T Qe σ rs n=some (r,b)∧wv r=true∧aV b=true∧G r b:=by
 obtain ⟨vs,h1,h2,h3⟩:=xZ (n:=n) hσ h;rw [F8,qy] at h3;split at h3
 ·rename_i hc;rw [Bool.and_eq_true,Bool.and_eq_true,zn,Nat.ble_eq] at hc;have hbt:aV (σ.bx.take n)=true:=bg.2 fun c hc=>bg.1 hσ.bx c (List.mem_of_mem_take hc);refine ⟨true,jg vs,σ.bx.take n,?_,qd h2,hbt,h3⟩;unfold Es;rw [h1];simp only [];rw [show jJ σ.bx n 1000 (jg vs)=some (jg vs) from by unfold jJ;rw [Nl (qd h2) hc.1.1]];simp only [];refine if_pos ⟨hc.2,?_⟩;rw [List.all_eq_true];intro c hcc;exact Cy (sW (bg.1 hbt c hcc)) (List.all_eq_true.1 hc.1.2 c hcc)
 ·rw [ky,←aa8 hσ.bx] at h3;split at h3
  ·exact h3.elim
  rename_i cs hcs;split at h3
  ·rename_i hc;rw [Bool.and_eq_true,zn] at hc;rw [wE,qy,←uf (qd h2),←Ga (qd h2),←(mr (lU hσ.bx hcs)).1] at h3;refine ⟨false,_,_,?_,zC (qd h2),(mr (lU hσ.bx hcs)).2,h3⟩;have hA:(cs.all fun c=>ym (AV.aN c) (lI n σ.bx (jg vs).ids))=true:=by rw [DN (p:=fun l=>ym l (lI n σ.bx (jg vs).ids)) (lU hσ.bx hcs),uf (qd h2)];exact hc.1
   have hp:Ab.pick n σ.bx (jg vs).ids=some (lI n σ.bx (jg vs).ids,cs.map (AV.aO (lI n σ.bx (jg vs).ids).idxOf)):=by unfold Ab.pick;rw [uf (qd h2)] at hA⊢;rw [hcs];simp only [];rw [if_pos ⟨hA,hc.2⟩]
   unfold Es;rw [h1];simp only [];rw [hp]
  ·exact h3.elim
def wP (T:jL) (rs:List ResultVar) (n:Nat) (G:AV->List (List AV)->Prop) (e:wL) (τ:aJ):Prop:=
 match e with
 |.exit _=>False
 |_=>ZW T τ rs n G
theorem nA:∀{l:List AV} {k:Nat} {tm:Tm},gZ l=true->ni tm=true->ni (params tm k l)=true
 |[],_,_,_,h=>h
 |v::l,k,tm,hl,h=>by rw [gZ,Bool.and_eq_true] at hl;rw [params];exact nA hl.2 (by rw [ni,hl.1,h];rfl)
theorem abG (HT:kN P T) {f:Nat} {fn:Func} {c:Code} (hf:P.funcs[f]?=some fn) (hg:o9 fn=true) (hb:fn.body=some c) {args:List AV} {bx:List (List AV)} (ha:gZ args=true) (hbx:aV bx=true) {G:AV->List (List AV)->Prop} (h:WP P fn.ntmps bx.length c ⟨params [] 0 args,bx⟩ (wP T fn.results.toList bx.length G)):∃r bx',aW P f args bx r bx'∧wv r=true∧aV bx'=true∧G r bx':=by
 unfold o9 at hg;rw [Bool.and_eq_true] at hg;obtain ⟨hg1,hg2⟩:=hg;rw [hb] at hg2;obtain ⟨e,σ,h1,h2,h3⟩:=WP.out h hg2 ⟨nA ha rfl,hbx⟩;have he:(e=.normal∨e=.ret)∧ZW T σ fn.results.toList bx.length G:=by
  cases e with
  |normal=>exact ⟨.inl rfl,h3⟩
  |ret=>exact ⟨.inr rfl,h3⟩
  |exit i=>exact h3.elim
 obtain ⟨he,h3⟩:=he;obtain ⟨Qe,r,bx',g1,g2,g3,g4⟩:=Vo h2 h3;refine ⟨r,bx',?_,g2,g3,g4⟩;have hlen:bx.length<=bx'.length:=by
  unfold Es at g1;split at g1
  ·cases g1
  ·split at g1
   ·split at g1
    ·split at g1
     ·rename_i hc;cases g1;rw [List.length_take];omega
     ·cases g1
    ·cases g1
   ·split at g1
    ·rename_i ids qM hp;cases g1;obtain ⟨-,q2,⟨cs,q3,rfl,-⟩,-⟩:=yB hp;rw [List.length_map,(lZ q3).1];rcases Nat.eq_zero_or_pos bx.length with e|e
     ·omega
     ·have:=(List.getElem?_eq_some_iff.1 (q2 (bx.length-1) oM)).1;omega
    ·cases g1
 refine ⟨⟨fn,hf,by simpa using hg1,by rw [hb];rfl⟩,hlen,fun lim bs w vs m hl hm H=>?_⟩;refine calls_of_wp hf hb ?_;have hsz:fn.ntmps<=(vs.toArray++Array.replicate (fn.ntmps-vs.toArray.size) undef).size:=iw;have hbs:bs.length=bx.length:=H.len;refine h1 (m:=m) hsz (Nat.le_refl _) (iy hl H) hm fun lim' bs' w' a' hgo=>?_;have kX:bx.length<=σ.bx.length:=by have:=qp (by rw [hbs];exact Nat.le_refl _) hgo.pre;rw [hgo.hold.len] at this;exact this
 obtain ⟨u,gI,qN,u1,u2,u3,u4,u5⟩:=Fx (fn:=fn) HT hgo.hold kX g1;have hpost:a'.defers=[]∧∃v,(results fn a'.tmps).run P w'=.ok v w'∧(∃v' lim' bs',Ending.returned v=.returned v'∧aM lim' bs' w' bx' (rS r v') m∧Fr m lim w lim' w'∧∀i,i<bx.length->bs'[i]?=bs[i]?):=by refine ⟨hgo.df,u,u1,u,gI,qN,rfl,u2,hgo.fr.trans u3,fun i hi=>?_⟩;have hib:i<bs.length:=oM;rw [u5 i hi,hgo.pre i _ hi (List.getElem?_eq_getElem hib),List.getElem?_eq_getElem hib]
 rcases he with rfl|rfl
 ·exact hpost
 ·exact hpost
end V
end Go.Proofs.YtlmjabnkjmfcmaaGreat
