/- Own texts, joined and shortened by a program; no condition. -/
import Derived.Test.YtlmjabnkjmfcmaaGreatK21
import Derived.Deep.AppendLies
import Derived.BigQuiet
import Derived.Shelf.Strings.Repeat
import Derived.Shelf.Strings.LastIndex
import Derived.Shelf.Strings.Search1
import Derived.Lib.Builder
import Derived.Lib.IndexLaws
import Derived.Test.YtlmjabnkjmfcmaaGreatProg
import Derived.WalkKit
import Derived.WalkSpells
import Derived.WalkLawsBesides
import Derived.PlainAid
import Derived.Handy
import Derived.Outline
import Derived.Lib.Hide
import Derived.Laws.RangeAny
import Derived.Lib.AppendZerosOnto
import Derived.Deep.RegionLaw
import Derived.Laws.AppendOwnNone
import Derived.Laws.Cover3
import Derived.LoopN
import Derived.Laws.Sem
import Derived.RegionTactic
import Derived.Orders
import Derived.Laws.CopyOwn
import Derived.Deep.MidRow
import Derived.Laws.Tables
import Derived.Laws.Entries
import Derived.Great.BuildSlice
import Derived.Laws.StructEq
import Derived.Below
import Derived.Deep.DeepCutAuto
import Derived.Laws.BytesArg
import Derived.Laws.BitsLemmas
import Derived.Deep.QuietTactic
import Derived.Lib.ConvBytes
import Derived.Lib.AtoiErrMem
namespace Go.Proofs.YtlmjabnkjmfcmaaGreat
open Go Go.RowKit Go.PlainAid
set_option linter.unusedVariables false
set_option linter.unusedSimpArgs false
set_option maxHeartbeats 20000000
set_option linter.defProp false
theorem Yr {p:Prop} (g:p:=by (((with_reducible refine (?_:∃d:Dc,_=rR d∧_));first|(refine ⟨d0,rfl,?_⟩)|(refine ⟨nU blk d0,rfl,?_⟩)|(refine ⟨nU blk (nU blk d0),rfl,?_⟩));(repeat' (first|exact bN|fail));first|done|fail)):p:=g
theorem Yq {p:Prop} (g:p:=by (((with_reducible refine (?_:WP _ _ _ (.loop _) _ _));(apply WP.loop (LU1 (.int .i64 aa) (.int .u8 bb) blk));(case h0=>exact ⟨0,_,⟨oM,oM⟩,oM,rfl,rfl⟩);(case' h=>(rintro j τ ⟨i,t,⟨g1,g2⟩,g3,rfl,rfl⟩)));(repeat' (first|exact bN|fail));first|done|fail)):p:=g
namespace V
open Ab
open Bk (Cm)
theorem xq:∀a:List Nd,(aP a).1.length=a.length
 |[]=>rfl
 |x::a=>by rw [aP,List.length_cons,List.length_cons,xq a]
end V
section
set_option maxRecDepth 100000
namespace V
open Ab
open Bk (Cm)
def c16:aC:=fun args bx K=>match args,bx with
 |[.str s,.int .i64 a,.int .u8 b],[]=>s.size<=20000∧∀t:ByteArray,t.size=s.size->K (.str t) []
 |_,_=>False
def LU1 (a b:AV) (blk:Bool) (j:Nat) (τ:aJ):Prop:=∃(i:Int) (s:ByteArray),(0<=i∧i<=2)∧s.size<=20000∧j=(2-i).toNat∧τ=⟨[(10,.int .i64 i),(9,.str s),(3,.bool blk),(2,b),(1,a)],[]⟩
def LU2 (s:ByteArray) (at_ b:AV) (blk:Bool) (i:Int) (ds:List Dc) (T:AV) (j:Nat) (τ:aJ):Prop:=(∀d ∈ ds,FU d)∧∃a r:List Dc,ds=a++r∧j=r.length∧τ=⟨[(14,.int .i64 a.length),(11,.ptr 0 0),(10,.int .i64 i),(9,.str s),(3,.bool blk),(2,b),(1,at_)],[[.sl ds.length (jY ds),T]]⟩
def c4:aC:=fun args bx K=>match args,bx with
 |[.sl n l,.int .i64 a,.int .u8 b,.bool blk],[]=>(∃ks:List Int,(n=ks.length∧l=jh ks))∧K (.bool true) []
 |_,_=>False
end V
end
def Bk.Cb (s:ByteArray) (k:Nat) (x:Int):List Int:=(s.data.toList.map fun b=>(b.toNat:Int)).set k x
def Bk.QD (s:ByteArray) (k:Nat) (b:Int):Int:=(((s.data.toList.getD k 0).toNat:Int)+b) % 256
def Bk.wS (s:ByteArray) (a b:Int):ByteArray:=if s.size=0 then s else strOfNums (Bk.Cb s (Bk.rP a s.size) (Bk.QD s (Bk.rP a s.size) b))
theorem EE (s:ByteArray) (k:Nat) (x:Int):(Bk.Cb s k x).length=s.size:=by unfold Bk.Cb;rw [List.length_set,List.length_map,Array.length_toList];rfl
theorem KV (s:ByteArray) (a b:Int):(Bk.wS s a b).size=s.size:=by
 unfold Bk.wS;split
 ·rfl
 ·rw [strOfNums_size,EE]
theorem Er (w:World) (s:ByteArray) (k:Nat) (hk:k<s.size):(Lib.bytesWorld w 5 s).frozen? ⟨w.heap.size,k,none⟩=false:=by
 have h:=Lib.bytesWorld_at_new w 5 s;unfold World.frozen?;simp only [h];have:s.size<=(Lib.bytesCells w 5 s).size:=by unfold Lib.bytesCells;simp only [Array.size_append,Array.size_map,Array.size_replicate];have:s.size=s.data.size:=rfl;omega
 simp only [Bool.and_eq_false_iff,decide_eq_false_iff_not];left;omega
theorem Im (w:World) (s:ByteArray) (k:Nat) (hk:k<s.size) (x:Int):(convert 90 9 (.slice (some ⟨w.heap.size,0,none⟩) s.size (grownCap w s.size 0 5))).run Tryz.prog ((Lib.bytesWorld w 5 s).setCell ⟨w.heap.size,k,none⟩ (.int .u8 x))=.ok (.string (strOfNums (Bk.Cb s k x))) ((Lib.bytesWorld w 5 s).setCell ⟨w.heap.size,k,none⟩ (.int .u8 x)):=by
 refine run_convert_bytes_arg _ 90 5 Tryz.underlying90 Tryz.underlying5 w.heap.size 0 s.size _ (Bk.Cb s k x) (EE s k x) (fun i hi=>?_) 9 Tryz.underlying9;rw [Nat.zero_add];have hn:=Lib.bytesWorld_at_new w 5 s;have hsz:s.size<=(Lib.bytesCells w 5 s).size:=by unfold Lib.bytesCells;simp only [Array.size_append,Array.size_map,Array.size_replicate];have:s.size=s.data.size:=rfl;omega
 have hl:(s.data.toList.map fun b=>(b.toNat:Int)).length=s.size:=by rw [List.length_map,Array.length_toList];rfl
 have hset:((Lib.bytesWorld w 5 s).setCell ⟨w.heap.size,k,none⟩ (.int .u8 x)).heap[w.heap.size]?=some (.cells ((Lib.bytesCells w 5 s).setIfInBounds k (.int .u8 x)) 5 ((Lib.bytesCells w 5 s).size,(Lib.bytesCells w 5 s).size+1)):=by unfold World.setCell;simp only [Array.getElem?_modify,hn,if_true,Option.map_some,Option.isSome_none,Bool.false_eq_true,if_false]
 unfold World.cell?;simp only [hset];rw [Array.getElem?_setIfInBounds];unfold Bk.Cb;by_cases e:k=i
 ·subst e;have hk':k<(Lib.bytesCells w 5 s).size:=oM;rw [List.getD_eq_getElem?_getD,List.getElem?_set_self (by rw [hl];exact hk)];simp only [if_true,if_pos hk'];rfl
 ·rw [if_neg e,List.getD_eq_getElem?_getD,List.getElem?_set_ne e];have hc:=Lib.bytesWorld_cell w 5 s i hi;unfold World.cell? at hc;simp only [hn] at hc;rw [hc];have:i<s.data.toList.length:=by rw [Array.length_toList];exact hi
  rw [List.getElem?_map,List.getD_eq_getElem?_getD,List.getElem?_eq_getElem this];rfl
theorem Ee {w w1:World} (h:Below w.heap.size w w1) (k:Nat) (v:Value):Below w.heap.size w (w1.setCell ⟨w.heap.size,k,none⟩ v):=⟨h.os,h.tape,h.output,by have:=h.size;simp [World.setCell];omega,fun j hj=>by
 rw [←h.block j hj];unfold World.setCell;simp only [Array.getElem?_modify];rw [if_neg oM]⟩
set_option maxRecDepth 100000 in
theorem KS (s:ByteArray) (a b:Int) (w:World) (hs:0<s.size) (hs2:s.size<=20000):Calls Tryz.prog 16 #[.string s,.int .i64 a,.int .u8 b] w fun e w'=>e=.returned (.string (Bk.wS s a b))∧Below w.heap.size w w':=by
 have kc:=fun (w:World)=>Lib.run_convert_string_bytes (P:=Tryz.prog) w 9 90 5 s Tryz.underlying9 Tryz.underlying90 Tryz.underlying5;have hp:(0:Int)<s.size:=oM;have hkl:Bk.rP a s.size<s.size:=by unfold Bk.rP;have h3:=Int.emod_lt_of_pos (a % Bk.Al) (show (0:Int)<s.size by omega);have h4:=Int.emod_nonneg (a % Bk.Al) (show (s.size:Int)≠0 by omega);omega
 have hT:Hid (Bk.wS s a b=strOfNums (Bk.Cb s (Bk.rP a s.size) (Bk.QD s (Bk.rP a s.size) b))):=Lib.hid (by unfold Bk.wS;rw [if_neg oM]);have hk0:(0:Int)<=(Bk.rP a s.size:Nat):=oM;have hk1:((Bk.rP a s.size:Nat):Int)<s.size:=oM;have hcell:=Lib.bytesWorld_cell w 5 s (Bk.rP a s.size) hkl;have hfz:=Er w s (Bk.rP a s.size) hkl;have hcv:=Im w s (Bk.rP a s.size) hkl;have hbw:=Lib.hid (Lib.bytesWorld_below w 5 s)
 go_enter Tryz.func16,Tryz.ntmps16
 go_wp2_with (go_at_call 22;refine (Gu a s.size _ oM oM).mono ?_;rintro e w' ⟨rfl,rfl⟩)
 go_ret
 refine ⟨?_,Ee hbw.out _ _⟩;rw [hT.out];unfold Bk.QD;rw [List.getD_eq_getElem?_getD,List.getElem?_eq_getElem (by rw [Array.length_toList];exact hkl)];rfl
set_option maxRecDepth 100000 in
theorem KT (s:ByteArray) (a b:Int) (w:World) (hs:s.size=0):Calls Tryz.prog 16 #[.string s,.int .i64 a,.int .u8 b] w fun e w'=>e=.returned (.string (Bk.wS s a b))∧Below w.heap.size w w':=by
 have hs0:s=ByteArray.empty:=by
  cases s with|mk d=>exact congrArg ByteArray.mk (Array.eq_empty_of_size_eq_zero hs)
 have kc:=fun (w:World)=>Lib.run_convert_string_bytes (P:=Tryz.prog) w 9 90 5 s Tryz.underlying9 Tryz.underlying90 Tryz.underlying5;have hT:Hid (Bk.wS s a b=s):=Lib.hid (by unfold Bk.wS;rw [if_pos hs]);have hp:¬(0:Int)<s.size:=oM;have hcv:∀(c:Nat) (v:World),(convert 90 9 (.slice (some ⟨w.heap.size,0,none⟩) 0 c)).run Tryz.prog v=.ok (.string s) v:=fun c v=>by have:=run_convert_bytes_arg (P:=Tryz.prog) v 90 5 Tryz.underlying90 Tryz.underlying5 w.heap.size 0 0 c [] rfl (fun i hi=>absurd hi (Nat.not_lt_zero i)) 9 Tryz.underlying9;rw [this,hs0];rfl
 have hbw:=Lib.hid (Lib.bytesWorld_below w 5 s);clear hs0
 go_enter Tryz.func16,Tryz.ntmps16
 go_wp2_with fail
 go_ret
 exact ⟨by rw [hT.out];rfl,hbw.out⟩
theorem KU (s:ByteArray) (a b:Int) (w:World) (hs:s.size<=20000):Calls Tryz.prog 16 #[.string s,.int .i64 a,.int .u8 b] w fun e w'=>e=.returned (.string (Bk.wS s a b))∧Below w.heap.size w w':=by
 by_cases h:s.size=0
 ·exact KT s a b w h
 ·exact KS s a b w oM hs
section
set_option maxRecDepth 100000
namespace V
open Ab
open Bk (Cm)
theorem ok16:aC.OK Tryz.prog 16 c16:=by
 intro args bx K0 h;unfold c16 at h;split at h
 ·rename_i s a b;refine ⟨.str (Bk.wS s a b),[],wm ⟨_,rfl,rfl,rfl⟩ rfl fun lim w vs hR=>?_,rfl,rfl,fun K hK=>hK.2 _ (KV s a b)⟩;simp only [AV.Rs,AV.R] at hR;obtain ⟨v,r,rfl,rfl,v2,r2,rfl,rfl,v3,r3,rfl,rfl,rfl⟩:=hR;refine (KU s a b w h.1).mono ?_;rintro e w' ⟨rfl,hb⟩;exact ⟨_,lim,rfl,hb,fun _ _=>rfl,fun ht b' hb'=>ht b' (by have:=hb.size;omega),by rw [AV.R]⟩
 ·exact h.elim
theorem law4 {f:Nat} (h:aC.OK Tryz.prog f c4) {a:Option Addr} {n c:Nat} {zs:List Int} (x y:Int) (blk:Bool) (W:World) (hi:(a=none∧n=0∧c=0∧zs=[])∨∃x,a=some x∧n<=c∧c<=maxLen∧zs.length=c∧(∀i,i<zs.length->W.cell? (x.add i)=some (.int .i64 (zs.getD i 0)))∧∀n ∈ zs,(Lit.int .i64 n).wf=true):Calls Tryz.prog f #[.slice a n c,.int .i64 x,.int .u8 y,.bool blk] W fun e W'=>e=.returned (.bool true)∧Below W.heap.size W W':=by
 obtain ⟨ks,lim,hk,ht,hR⟩:=SS hi;obtain ⟨r,bx',h1,-,-,h2⟩:=h [.sl n (jh ks),.int .i64 x,.int .u8 y,.bool blk] [] (fun _ _=>True) ⟨⟨ks,hk.symm,rfl⟩,trivial⟩;obtain ⟨rfl,rfl⟩:=h2 (fun r b=>r=.bool true∧b=[]) ⟨⟨ks,hk.symm,rfl⟩,rfl,rfl⟩;refine NL (vs:=[.slice a n c,.int .i64 x,.int .u8 y,.bool blk]) h1 ht ?_ ?_
 ·rw [AV.Rs];refine ⟨_,_,rfl,hR,?_⟩;rw [AV.Rs];refine ⟨_,_,rfl,by rw [AV.R],?_⟩;rw [AV.Rs];refine ⟨_,_,rfl,by rw [AV.R],?_⟩;rw [AV.Rs];refine ⟨_,_,rfl,by rw [AV.R],?_⟩;rw [AV.Rs]
 ·have:=bB (mF ks);simp only [AV.ak,AV.flat,this,Bool.and_self]
end V
end
end Go.Proofs.YtlmjabnkjmfcmaaGreat
