/-
  The walk of field.one: the field that a text is. The walk of field.First: the value of the first field of a name. The walk of field.lines and of the iterator that it hands back. Words for field.Split: what the loop over the lines keeps, and what the loop over the gathered ones does. The walk of field.Split: the fields of a text, and the place behind them. The walks of the store's thread and of its
-/
import Derived.Test.YtfhlhdmhgheonaaGreatDoorGB
import Derived.Test.YtfhlhdmhgheonaaGreatDoorGD
import Derived.Test.YtfhlhdmhgheonaaGreatDoorGA
import Derived.RangeFuncNested
import Derived.RangeFuncBound
import Derived.RangeFuncCalls
import Derived.RangeFuncLeaves
import Derived.Shelf.Abstract
import Derived.Shelf.RegionOpen
import Derived.OwnWalkIn
import Derived.TacticsInMore
import Derived.LoopNIn
import Derived.LoopIn
import Derived.Deep.QuietTactic
import Derived.BigQuiet
import Derived.Deep.RegionLaw
import Derived.Deep.DrawnRows
import Derived.Deep.DeepCutAuto
import Derived.Deep.CutBlock
import Derived.StillTailTactics
set_option maxRecDepth 100000
set_option maxHeartbeats 8000000
namespace Go.Proofs.YtfhlhdmhgheonaaGreatDoor
open Go.Shelf Go.RowKit
attribute [local go_sem ↓] Go.wp_at_zero Go.wp_at_succ
theorem uf {w w':World}{n:Nat}(h:Below (w.drewN n).heap.size (w.drewN n) w'):Below w.heap.size w w':=⟨h.os,h.tape,h.output,h.size,h.block⟩
def ul (b:UInt8):Bool:=decide (33≤b.toNat) && decide (b.toNat≤126)
theorem zdr (s:List UInt8)(w:World)(hs:s.length < 4294967281)(hcl:(Lib.cut s [58]).1.length≤s.length∧(Lib.cut s [58]).2.1.length≤s.length) :
  Calls Tryz.prog 204 #[.string ⟨s.toArray⟩] w fun e w'=>e=.returned (.tuple #[.agg #[.string ⟨(YP s).1.1.toArray⟩,.string ⟨(YP s).1.2.toArray⟩],.bool (YP s).2])∧Below w.heap.size w w':=by
 have q:=fun W=>cut_any s W hs
 unfold YP
 generalize Lib.cut s [58]=c at q hcl ⊢
 obtain⟨H,I,n⟩:=c
 simp only at q hcl ⊢
 have r:=fun W=>trim_any I W (by omega)
 generalize Lib.trimS I [32,9]=tr at r ⊢
 obtain⟨S,rfl⟩:∃S:ByteArray,H=S.data.toList:=⟨⟨H.toArray⟩,rfl⟩
 have t:(⟨S.data.toList.toArray⟩:ByteArray)=S:=rfl
 rw[t] at q ⊢
 have K:S.size < 4294967281:=by
  have L:=hcl.1
  have M:S.data.toList.length=S.size:=by simp
  omega
 obtain⟨h,j⟩:∃h,(n && (S.data.toList.all (fun b=>decide (33≤b.toNat) && decide (b.toNat≤126)) && !decide (S.data.toList=[])))=h:=⟨_,rfl⟩
 rw[j]
 have g:h=((n && S.data.toList.all ul) && !S.data.toList.isEmpty):=by
  rw[←j,Bool.and_assoc]
  cases S.data.toList <;> rfl
 have D:=zdG g
 clear hcl hs t j g
 go_enter Tryz.func204,Tryz.ntmps204
 go_wp2_with (first
  |(go_at_call 252;refine(q _).mono ?_;rintro e T ⟨rfl,U,rfl⟩;clear q)
  |fail)
 go_loop [6,16] (fun o i=>∃k:Nat,k≤S.size∧i=.int .i64 k∧o=.bool (n && (S.data.toList.take k).all ul)) (fun _ i=>S.size - (intOf i).toNat)
 case atStart=>exact⟨0,Nat.zero_le _,rfl,by simp⟩
 case round=>
  obtain⟨k,V,rfl,rfl⟩:=hrel
  by_cases G:k < S.size
  ·have N:(k:Int) < (S.size:Int):=by omega
   have u:(n && (S.data.toList.take (k+1)).all ul)=((n && (S.data.toList.take k).all ul) && ul S[k]):=by
    rw[Yw S k G]
    simp[Bool.and_assoc]
   have d:=zdG u
   clear u
   generalize (n && (S.data.toList.take k).all ul)=p at d ⊢
   cases p with
   |false=>
    go_wp2_with fail
    refine⟨?_,by simp[intOf];omega⟩
    first|exact⟨k+1,by omega,by go_num,by rw[d.out];rfl⟩|((repeat apply Exists.intro);exact⟨⟨k+1,by omega,by go_num,by rw[d.out];rfl⟩,rfl⟩)
   |true=>
    by_cases L:(33:Int)≤(S[k].toNat:Int)
    ·by_cases M:(S[k].toNat:Int)≤126
     ·have x:ul S[k]=true:=by simp[ul];omega
      rw[x] at d
      go_wp2_with fail
      refine⟨?_,by simp[intOf];omega⟩
      first|exact⟨k+1,by omega,by go_num,by rw[d.out];rfl⟩|((repeat apply Exists.intro);exact⟨⟨k+1,by omega,by go_num,by rw[d.out];rfl⟩,rfl⟩)
     ·have x:ul S[k]=false:=by simp[ul];omega
      rw[x] at d
      go_wp2_with fail
      refine⟨?_,by simp[intOf];omega⟩
      first|exact⟨k+1,by omega,by go_num,by rw[d.out];rfl⟩|((repeat apply Exists.intro);exact⟨⟨k+1,by omega,by go_num,by rw[d.out];rfl⟩,rfl⟩)
    ·have x:ul S[k]=false:=by simp[ul];omega
     rw[x] at d
     go_wp2_with fail
     refine⟨?_,by simp[intOf];omega⟩
     first|exact⟨k+1,by omega,by go_num,by rw[d.out];rfl⟩|((repeat apply Exists.intro);exact⟨⟨k+1,by omega,by go_num,by rw[d.out];rfl⟩,rfl⟩)
  ·have E:k=S.size:=by omega
   subst E
   have y:S.data.toList.take S.size=S.data.toList:=List.take_of_length_le (by simp)
   rw[y]
   obtain⟨p,J⟩:∃p,(n && S.data.toList.all ul)=p:=⟨_,rfl⟩
   rw[J] at D ⊢
   clear J y
   cases p with
   |false=>
    go_wp2_with (first
     |(go_at_call 253;refine(r _).mono ?_;rintro e C ⟨rfl,l⟩;have f:=uf l;have a:=(Blk.new w 253 #[.string ⟨#[]⟩,.string ⟨#[]⟩]).below f (by simp);have O:C.cell? ⟨w.heap.size,0,none⟩=some (.string ⟨#[]⟩):=a.cell 0;have P:C.cell? ⟨w.heap.size,1,none⟩=some (.string ⟨#[]⟩):=a.cell 1;have Q:=a.frozen 0;have R:=a.frozen 1;have F:=zdG a;have m:=zdG (za (below_alloc1 w _) f);clear r a l f)
     |fail)
    refine bodyPost_ret (v:=.tuple #[.agg #[.string S,.string ⟨tr.toArray⟩],.bool h]) ?_ rfl ⟨rfl,(((Chg.of_below m.out []).set (.inr (Nat.le_refl _)) _).set (.inr (Nat.le_refl _)) _).below (Nat.le_refl _) (by simp)⟩
    have z:=(F.out.set 0 (.string S)).set 1 (.string ⟨tr.toArray⟩)
    have A:=z.cell 0
    have B:=z.cell 1
    simp at A B
    rw[D.out]
    simp[results,Tryz.results204,go_sem,A,B]
   |true=>
    go_wp2_with (first
     |(go_at_call 253;refine(r _).mono ?_;rintro e C ⟨rfl,l⟩;have f:=uf l;have a:=(Blk.new w 253 #[.string ⟨#[]⟩,.string ⟨#[]⟩]).below f (by simp);have O:C.cell? ⟨w.heap.size,0,none⟩=some (.string ⟨#[]⟩):=a.cell 0;have P:C.cell? ⟨w.heap.size,1,none⟩=some (.string ⟨#[]⟩):=a.cell 1;have Q:=a.frozen 0;have R:=a.frozen 1;have F:=zdG a;have m:=zdG (za (below_alloc1 w _) f);clear r a l f)
     |fail)
    refine bodyPost_ret (v:=.tuple #[.agg #[.string S,.string ⟨tr.toArray⟩],.bool h]) ?_ rfl ⟨rfl,(((Chg.of_below m.out []).set (.inr (Nat.le_refl _)) _).set (.inr (Nat.le_refl _)) _).below (Nat.le_refl _) (by simp)⟩
    have z:=(F.out.set 0 (.string S)).set 1 (.string ⟨tr.toArray⟩)
    have A:=z.cell 0
    have B:=z.cell 1
    simp at A B
    rw[D.out]
    simp[results,Tryz.results204,go_sem,A,B,ByteArray.toList_eq]
def XT (f:List UInt8×List UInt8):List Value:=[.string ⟨f.1.toArray⟩,.string ⟨f.2.toArray⟩]
theorem ZY (f:List UInt8×List UInt8):(XT f).length=2:=rfl
theorem Xo (name:List UInt8):∀(l:List (List UInt8×List UInt8)) (k:Nat) (hk:k < l.length),vP l[k].1=vP name→(∀j (hj:j < l.length),j < k→vP l[j].1≠vP name)→vI l name=(l[k].2,true)
 |x :: r,0,_,h,_=>by
  have h:vP x.1=vP name:=h
  simp[vI,h]
 |x :: r,k+1,hk,h,hj=>by
  have h0:¬vP x.1=vP name:=hj 0 (by simp) (by omega)
  have ih:=Xo name r k (by simpa using hk) (by simpa using h) (fun j hj1 hj2=>hj (j+1) (by simpa using hj1) (by omega))
  simp only[vI] at ih ⊢
  rw[List.find?_cons_of_neg (by simpa using h0)]
  exact ih
theorem VE (name:List UInt8)(l:List (List UInt8×List UInt8))(h:∀j (hj:j < l.length),vP l[j].1≠vP name):vI l name=([],false):=by
 have:l.find? (fun f=>decide (vP f.1=vP name))=none:=by
  rw[List.find?_eq_none]
  intro x a
  obtain⟨j,hj,rfl⟩:=List.getElem_of_mem a
  simpa using h j hj
 simp[vI,this]
theorem zcz (w:World)(v:Value)(S:List Nat)(l:List (List UInt8×List UInt8))(hr:RdS w S 2 v l.length (zk XT l))(name:List UInt8)(hn:name.length≤4294967296)(hl:∀f∈l,f.1.length≤4294967296) :
  Calls Tryz.prog 172 #[v,.string ⟨name.toArray⟩] w fun e w'=>e=.returned (.tuple #[.string ⟨(vI l name).1.toArray⟩,.bool (vI l name).2])∧Below w.heap.size w w':=by
 have F:=fun(s:List UInt8) (hs:s.length≤4294967296) W=>YZ ⟨s.toArray⟩ W (by show s.toArray.size≤_;simp;omega)
 obtain⟨A,a6,rfl,K,L⟩:=hr.form
 unfold maxLen at L
 obtain⟨n,Y⟩:∃n,l.length=n:=⟨_,rfl⟩
 obtain⟨y,g⟩:∃y,vI l name=y:=⟨_,rfl⟩
 rw[g]
 obtain⟨a1,a2⟩:=y
 have t:=zdG g
 have HR:=zdG hr
 have HL:=zdG hl
 rw[Y] at hr K ⊢
 have a3:n≤9223372036854775807:=by omega
 clear K L
 clear hr hl g
 go_enter Tryz.func172,Tryz.ntmps172
 go_wp2_with fail
 go_loopw [10] (fun i wr=>∃k:Nat,k≤n∧i=.int .i64 k∧Hid (Below w.heap.size w wr)∧Hid (∀j (E:j < l.length),j < k→vP l[j].1≠vP name)) (fun i _=>n - (intOf i).toNat)
 case atStart=>exact⟨0,Nat.zero_le _,rfl,zdG (Below.refl _ _),zdG (fun j E h=>by omega)⟩
 case round=>
  obtain⟨k,hk,rfl,M,Z⟩:=hrel
  by_cases a5:k < n
  ·have m:k < l.length:=by omega
   obtain⟨b,r,a4,a0,_,_,N,_,z⟩:=HR.out.at_ (by omega)
   injection a0 with hva1 hvx hva3
   subst hva1 hva3
   clear hvx
   have e0:=(M.out.cell (p:=⟨b,r+k * 2,none⟩) N).trans ((z (k * 2) (by omega)).trans ((zy ZY l k 0 m (by omega)).trans rfl))
   have e1:=(M.out.cell (p:=⟨b,r+k * 2+1,none⟩) N).trans ((congrArg w.cell? (by rw[Nat.add_assoc])).trans ((z (k * 2+1) (by omega)).trans ((zy ZY l k 1 m (by omega)).trans rfl)))
   have d0:wr.cell? ⟨b,r+k * 2,none⟩=some (.string ⟨l[k].1.toArray⟩):=e0
   have d1:wr.cell? ⟨b,r+k * 2+1,none⟩=some (.string ⟨l[k].2.toArray⟩):=e1
   have C:=fun W=>F l[k].1 (HL.out _ (List.getElem_mem m)) W
   have O:=fun W=>F name hn W
   have o:vP l[k].1=vP name→(a1,a2)=(l[k].2,true):=fun h=>t.out.symm.trans (Xo name l k m h Z.out)
   obtain⟨x,hx⟩:∃x,x=l[k]:=⟨_,rfl⟩
   have HX:=zdG hx
   rw[←hx] at d0 d1 C o
   obtain⟨B,R⟩:=x
   simp only at d0 d1 C o
   have T:=zdG o
   clear z e0 e1 hx o
   have P:(VX ⟨B.toArray⟩).toList=vP B:=by rw[ByteArray.toList_eq];rfl
   have Q:(VX ⟨name.toArray⟩).toList=vP name:=by rw[ByteArray.toList_eq];rfl
   by_cases D:vP B=vP name
   ·have hc:((VX ⟨B.toArray⟩).toList==(VX ⟨name.toArray⟩).toList)=true:=by rw[P,Q,D];simp
    have hi:=T.out D
    injection hi with hi1 hi2
    have U:=hi1.symm
    have V:=hi2.symm
    subst U V
    clear P Q D
    go_wp2_with (first
     |(go_at_call 175;(with_reducible refine(C _).mono ?_);rintro e w2 ⟨rfl,a⟩;have G:=(Blk.new wr 253 #[.string ⟨B.toArray⟩,.string ⟨R.toArray⟩]).below a (by simp);have d:=za (below_alloc1 wr _) a;have H:=zdG G;have u:=zdG d;clear C a G d)
     |(go_at_call 175;(with_reducible refine(O _).mono ?_);rintro e w3 ⟨rfl,c⟩;have z1:w3.cell? ⟨wr.heap.size,1,none⟩=some (.string ⟨R.toArray⟩):=(H.out.below c H.out.lt).cell 1;have q:=zdG (za M.out (za u.out c));clear O c)
     |fail)
    go_ret2
    exact⟨rfl,q.out⟩
   ·have hc:((VX ⟨B.toArray⟩).toList==(VX ⟨name.toArray⟩).toList)=false:=by rw[P,Q];simpa using D
    have I:Hid (∀j (E:j < l.length),j < k+1→vP l[j].1≠vP name):=zdG (by
     intro j E a7
     by_cases J:j=k
     ·subst J
      rw[←HX.out]
      exact D
     ·exact Z.out j E (by omega))
    clear P Q D
    go_wp2_with (first
     |(go_at_call 175;(with_reducible refine(C _).mono ?_);rintro e w2 ⟨rfl,a⟩;have G:=(Blk.new wr 253 #[.string ⟨B.toArray⟩,.string ⟨R.toArray⟩]).below a (by simp);have d:=za (below_alloc1 wr _) a;have H:=zdG G;have u:=zdG d;clear C a G d)
     |(go_at_call 175;(with_reducible refine(O _).mono ?_);rintro e w3 ⟨rfl,c⟩;have z1:w3.cell? ⟨wr.heap.size,1,none⟩=some (.string ⟨R.toArray⟩):=(H.out.below c H.out.lt).cell 1;have q:=zdG (za M.out (za u.out c));clear O c)
     |fail)
    refine⟨?_,by simp[intOf];omega⟩
    first|exact⟨k+1,by omega,by go_num,q,I⟩|((repeat apply Exists.intro);exact⟨⟨k+1,by omega,by go_num,q,I⟩,rfl⟩)
  ·have X:k=n:=by omega
   subst X
   have hm:=VE name l (fun j E=>Z.out j E (by omega))
   rw[t.out] at hm
   injection hm with hm1 hm2
   subst hm1 hm2
   go_wp2_with fail
   go_ret2
   exact⟨rfl,M.out⟩
end Go.Proofs.YtfhlhdmhgheonaaGreatDoor
namespace Go.Proofs.YtfhlhdmhgheonaaGreatDoor
open Go.Shelf Go.RowKit
attribute [local go_sem ↓] Go.wp_at_zero Go.wp_at_succ
attribute [local go_sem] Oper.semAt_some
theorem zdi (s:ByteArray)(at_ t_:Int)(w:World) :
  Calls Tryz.prog 203 #[.string s,.int .i64 at_,.int .i64 t_] w fun e w'=>e=.returned (.func (.func 250) #[] #[.pointer (some ⟨w.heap.size+1,0,none⟩),.pointer (some ⟨w.heap.size+1+1,0,none⟩),.pointer (some ⟨w.heap.size,0,none⟩)])∧w'=((w.alloc (.cells #[.string s] 9)).alloc (.cells #[.int .i64 at_] 3)).alloc (.cells #[.int .i64 t_] 3):=by
 go_enter Tryz.func203,Tryz.ntmps203
 go_wp2
 go_ret
 exact⟨rfl,rfl⟩
def YE (s:List UInt8)(p:Nat):List UInt8×Nat:=
 if Lib.indexByte (s.drop p) 10 < 0 then (s.drop p,s.length)
 else (Lib.trimSuffix ((s.drop p).take (Lib.indexByte (s.drop p) 10).toNat) [13],p+((Lib.indexByte (s.drop p) 10).toNat+1))
theorem Yd (D:List UInt8)(c:UInt8)(h:¬Lib.indexByte D c < 0):(Lib.indexByte D c).toNat < D.length:=by
 obtain⟨o,b⟩:∃o:Nat,Lib.indexByte D c=o:=⟨(Lib.indexByte D c).toNat,by omega⟩
 have a:=(Lib.indexByte_some b).1
 have d:=(List.getElem?_eq_some_iff.1 a).1
 omega
theorem QO (s:List UInt8)(p f:Nat)(hp:p < s.length):yH (f+1) (s.drop p) p=YE s p :: yH f (s.drop (YE s p).2) (YE s p).2:=by
 have a:s.drop p≠[]:=by
  intro h
  have:=congrArg List.length h
  simp at this
  omega
 rw[yH,if_neg a]
 unfold YE
 by_cases h:Lib.indexByte (s.drop p) 10 < 0
 ·rw[if_pos h,if_pos h]
  have b:p+(s.drop p).length=s.length:=by simp;omega
  rw[b]
  have c:yH f (s.drop s.length) s.length=[]:=by
   cases f <;> simp[yH]
  simp only[c]
 ·rw[if_neg h,if_neg h]
  simp only[List.drop_drop]
theorem trimSuffix_le (l p:List UInt8):(Lib.trimSuffix l p).length≤l.length:=by
 unfold Lib.trimSuffix
 split
 ·rw[List.length_take]
  omega
 ·exact Nat.le_refl _
theorem zaA (s:List UInt8)(p:Nat)(hp:p < s.length):p < (YE s p).2∧(YE s p).2≤s.length∧(YE s p).1.length≤s.length:=by
 unfold YE
 by_cases h:Lib.indexByte (s.drop p) 10 < 0
 ·rw[if_pos h]
  exact⟨hp,Nat.le_refl _,by simp⟩
 ·rw[if_neg h]
  have:=Yd (s.drop p) 10 h
  simp only[List.length_drop] at this
  have a:=trimSuffix_le ((s.drop p).take (Lib.indexByte (s.drop p) 10).toNat) [13]
  simp only[List.length_take,List.length_drop] at a
  refine⟨?_,?_,?_⟩ <;> simp only <;> omega
theorem extract_drop (s:List UInt8)(p:Nat):(⟨s.toArray⟩:ByteArray).extract p s.length=⟨(s.drop p).toArray⟩:=by
 apply ByteArray.ext
 apply Array.ext'
 simp
 exact List.take_of_length_le (by simp)
theorem Ze (s:List UInt8)(i:Nat):(⟨s.toArray⟩:ByteArray).extract 0 i=⟨(s.take i).toArray⟩:=by
 apply ByteArray.ext
 apply Array.ext'
 simp
structure LSt (W:World)(BA BT BS:Nat)(s:List UInt8)(p:Nat):Prop where
 a:Blk W BA 3 #[.int .i64 p]
 t:Blk W BT 3 #[.int .i64 s.length]
 s:Blk W BS 9 #[.string ⟨s.toArray⟩]
def KpL (BA BT BS:Nat)(A B:World):Prop:=B.heap[BA]?=A.heap[BA]?∧B.heap[BT]?=A.heap[BT]?∧B.heap[BS]?=A.heap[BS]?
theorem LSt.kp {W W':World}{BA BT BS:Nat}{s:List UInt8}{p:Nat}(h:LSt W BA BT BS s p)(k:KpL BA BT BS W W'):LSt W' BA BT BS s p:=⟨k.1.trans h.a,k.2.1.trans h.t,k.2.2.trans h.s⟩
def posOf (BA:Nat)(W:World):Nat:=match W.cell? ⟨BA,0,none⟩ with
 |some v=>(intOf v).toNat
 |none=>0
theorem zcE (s:List UInt8)(hs:s.length≤4294967296)(BA BT BS l:Nat)(hne:BA≠BT∧BA≠BS)(J Jx:List (List UInt8×Nat)→World→Prop)(hJ:∀pre A A',J pre A→Chg [BA] A A'→J pre A')(hY:∀pre (x:List UInt8×Nat) W,x.1.length≤s.length→x.2≤s.length→J pre W→pre.length < s.length→YieldAt Fence.wide (2 - 1) Tryz.prog l #[.string ⟨x.1.toArray⟩,.int .i64 (x.2:Nat)] W fun e W'=>
   (e=.returned (.bool true)∧J (pre++[x]) W'∧KpL BA BT BS W W')∨(e=.returned (.bool false)∧Jx (pre++[x]) W'))(W:World)(hL:LSt W BA BT BS s 0)(h0:J [] W) :
  CallsIn Fence.wide 2 Tryz.prog 250 #[.func (.yield l) #[] #[],.pointer (some ⟨BA,0,none⟩),.pointer (some ⟨BT,0,none⟩),.pointer (some ⟨BS,0,none⟩)] W fun e W'=>(∃v,e=.returned v)∧
   ((∃xs,xs=yH s.length s 0∧J xs W')∨(∃pre,pre <+: yH s.length s 0∧Jx pre W')):=by
 refine callsIn_of_wp Tryz.func250 rfl trivial ?_ rfl
 simp only[Tryz.ntmps250,List.size_toArray,List.length_cons,List.length_nil,Nat.reduceAdd,Nat.reduceSub,Array.replicate_succ,Array.replicate_zero,List.push_toArray,List.append_toArray,List.nil_append,List.cons_append]
 refine wpIn_wide.2 ?_
 have HJ:=zdG hJ
 have HY:=zdG hY
 have F:=zdG hne
 clear hJ hY hne
 go_wp2_with fail
 go_loopw [5] (fun _ wr=>∃(p f:Nat) (pre:List (List UInt8×Nat)),p≤s.length∧Hid (LSt wr BA BT BS s p)∧Hid (J pre wr)∧Hid (yH s.length s 0=pre++yH f (s.drop p) p∧s.length≤p+f∧pre.length≤p)) (fun _ wr=>s.length - posOf BA wr)
 case atStart=>exact⟨0,s.length,[],Nat.zero_le _,zdG hL,zdG h0,zdG ⟨by simp,by omega,by simp⟩⟩
 case round=>
  obtain⟨p,f,pre,hp,u,HP,y⟩:=hrel
  have S:wr.cell? ⟨BA,0,none⟩=some (.int .i64 p):=u.out.a.cell 0
  have cT:wr.cell? ⟨BT,0,none⟩=some (.int .i64 s.length):=u.out.t.cell 0
  have cS:wr.cell? ⟨BS,0,none⟩=some (.string ⟨s.toArray⟩):=u.out.s.cell 0
  by_cases M:p < s.length
  ·obtain⟨N,rfl⟩:∃N,f=N+1:=⟨f - 1,by have:=y.out.2.1;omega⟩
   have b:=QO s p N M
   have d:=zaA s p M
   have hx:(⟨s.toArray⟩:ByteArray).extract p s.length=⟨(s.drop p).toArray⟩:=extract_drop s p
   have c:YE s p=if Lib.indexByte (s.drop p) 10 < 0 then (s.drop p,s.length) else (Lib.trimSuffix ((s.drop p).take (Lib.indexByte (s.drop p) 10).toNat) [13],p+((Lib.indexByte (s.drop p) 10).toNat+1)):=rfl
   have G:(s.drop p).length≤4294967296:=by simp;omega
   have h:=Yd (s.drop p) 10
   obtain⟨D,hD⟩:∃D,s.drop p=D:=⟨_,rfl⟩
   rw[hD] at hx c G h b
   have HD:=zdG hD
   clear hD
   obtain⟨x,z⟩:∃x,x=YE s p:=⟨_,rfl⟩
   rw[←z] at c b d
   have HX:=zdG z
   have H:=zdG b
   have B:=fun W=>Tryz.strings_IndexByte ⟨D.toArray⟩ 10 W
   have B:∀W,Calls Tryz.prog 101 #[.string ⟨D.toArray⟩,.int .u8 10] W fun e w'=>e=.returned (.int .i64 (Lib.indexByte D 10))∧w'=W:=B
   have I:=fun(l:List UInt8) (hl:l.length≤4294967296) W=>Tryz.strings_TrimSuffix ⟨l.toArray⟩ ⟨#[13]⟩ W (by show l.toArray.size≤_;simp;omega)
   have I:∀(l:List UInt8) (_:l.length≤4294967296) W,Calls Tryz.prog 251 #[.string ⟨l.toArray⟩,.string ⟨#[13]⟩] W fun e w'=>e=.returned (.string ⟨(Lib.trimSuffix l [13]).toArray⟩)∧w'=W:=I
   generalize Lib.indexByte D 10=r at B c h
   obtain⟨x1,m⟩:=x
   have a4:(0:Int)≤(p:Int):=by omega
   have a5:(p:Int)≤(s.length:Int):=by omega
   have a6:(p:Int) < (s.length:Int):=by omega
   have C:=zdG d
   clear z b d
   go_wp2_with fail
   go_quiet (fail)
   go_upto_if 19 with(first
    |(go_at_call 101;refine(B _).mono ?_;rintro e w2 ⟨rfl,rfl⟩;clear B)
    |fail)
   obtain⟨U,o⟩:∃U:World,U=wr.drewN nq:=⟨_,rfl⟩
   rw[←o]
   have S:U.cell? ⟨BA,0,none⟩=some (.int .i64 p):=by rw[o];exact S
   have X:=zdG o
   clear o
   go_cut [5,6] (fun t nx wx=>t=.string ⟨x1.toArray⟩∧nx=.int .i64 (m:Nat)∧∃q,Hid (wx=U.drewN q))
   case first=>
    by_cases hr:r < 0
    ·rw[if_pos hr] at c
     injection c with hl1 hl2
     subst hl1 hl2
     have Y:¬0≤r:=by omega
     go_wp2_with fail
     go_meet
     exact⟨rfl,rfl,0,zdG rfl⟩
    ·rw[if_neg hr] at c
     injection c with hl1 hl2
     subst hl1 hl2
     have K:=h (by omega)
     obtain⟨i,rfl⟩:∃i:Nat,r=i:=⟨r.toNat,by omega⟩
     simp only[Int.toNat_natCast] at K ⊢
     have a7:(⟨D.toArray⟩:ByteArray).extract 0 i=⟨(D.take i).toArray⟩:=Ze D i
     have c3:=I (D.take i) (by rw[List.length_take];omega)
     have Y:(0:Int)≤(i:Int):=by omega
     have a8:(i:Int)≤(D.length:Int):=by omega
     have g1:IntKind.i64.wrap ((p:Int)+(i:Int))=(p:Int)+(i:Int):=IntWalk.i64_in _ (by omega)
     have g2:IntKind.i64.wrap ((p:Int)+(i:Int)+1)=(p:Int)+(i:Int)+1:=IntWalk.i64_in _ (by omega)
     clear I
     go_wp2_with fail
     go_region_with (first
      |(go_at_call 251;refine(c3 _).mono ?_;rintro e w2 ⟨rfl,rfl⟩)
      |fail)
     all_goals
      go_wp2_with fail
      go_meet
      exact⟨rfl,by simp;omega,1,zdG rfl⟩
   case rest=>
    obtain⟨rfl,rfl,q,HW⟩:=hcut
    obtain⟨E,rfl⟩:∃E:World,E=wc:=⟨_,rfl⟩
    have g:Chg [] wr E:=by
     rw[HW.out,X.out]
     exact((Chg.refl [] wr).drewN _).drewN _
    have L:LSt E BA BT BS s p:=⟨u.out.a.chg g (by simp),u.out.t.chg g (by simp),u.out.s.chg g (by simp)⟩
    have Z:=zdG L
    obtain⟨fn,a2,V,a3,hy,hR⟩:=HY.out pre (x1,m) E C.out.2.2 C.out.2.1 (HJ.out pre wr E HP.out (g.mono (by simp))) (by have:=y.out.2.2;omega)
    simp only at hy
    clear g L S B I hx c h G
    refine ‹∀(a:Act) (w:World),Code.wp Tryz.prog _ _ a w→_› _ _ ?_
    refine(wpIn_wide (n:=2)).1 ?_
    gi_wp2
    refine hR.mono ?_
    rintro e O (⟨rfl,P,Q⟩|⟨rfl,R⟩)
    ·have j:=Z.out.kp Q
     have S:O.cell? ⟨BA,0,none⟩=some (.int .i64 p):=j.a.cell 0
     have fA:O.frozen? ⟨BA,0,none⟩=false:=j.a.frozen 0
     have k:=zdG j
     have a0:=zdG P
     clear j P Q hR
     gi_wp2
     go_roundw
     case rel=>
      refine⟨m,N,pre++[(x1,m)],C.out.2.1,zdG ⟨k.out.a.set 0 _,k.out.t.far (p:=⟨BA,0,none⟩) (fun e=>F.out.1 e.symm) _,k.out.s.far (p:=⟨BA,0,none⟩) (fun e=>F.out.2 e.symm) _⟩,zdG (HJ.out _ O _ a0.out ((Chg.refl [BA] O).set (.inl (by simp)) _)),zdG ⟨?_,?_,?_⟩⟩
      ·rw[y.out.1,HD.out,H.out,List.append_assoc]
       rfl
      ·have h1:=y.out.2.1
       have T:=C.out.1
       omega
      ·have h1:=y.out.2.2
       have T:=C.out.1
       rw[List.length_append,List.length_singleton]
       omega
     case measure=>
      have T:=C.out.1
      have e1:posOf BA wr=p:=by
       unfold posOf
       rw[show wr.cell? ⟨BA,0,none⟩=some (.int .i64 p) from u.out.a.cell 0]
       simp[intOf]
      have e2:posOf BA (O.setCell ⟨BA,0,none⟩ (.int .i64 (m:Nat)))=m:=by
       unfold posOf
       rw[(k.out.a.set 0 (.int .i64 (m:Nat))).cell 0]
       simp[intOf]
      rw[e1,e2]
      omega
    ·gi_wp2
     refine bodyPost_ret (results_none rfl _ _ _) rfl ⟨⟨_,rfl⟩,.inr ⟨_,?_,R⟩⟩
     rw[y.out.1,HD.out,H.out]
     exact⟨yH N (s.drop m) m,by rw[List.append_assoc];rfl⟩
  ·have a1:p=s.length:=by omega
   subst a1
   go_wp2_with fail
   go_end0
   refine⟨⟨_,rfl⟩,.inl ⟨_,?_,HP.out⟩⟩
   have h1:=y.out.1
   have T:yH f (s.drop s.length) s.length=[]:=by
    cases f <;> simp[yH]
   rw[h1,T,List.append_nil]
abbrev Ln:={x:List UInt8×Nat // x.1.length≤2147483648∧x.2≤2147483648}
theorem zal (s:List UInt8)(hs:s.length≤2147483648)(BA BT BS:Nat)(hne:BA≠BT∧BA≠BS)(w:World)(hL:LSt w BA BT BS s 0) :
  JQ Fence.wide 2 Tryz.prog 250 #[.pointer (some ⟨BA,0,none⟩),.pointer (some ⟨BT,0,none⟩),.pointer (some ⟨BS,0,none⟩)] (fun x:Ln=>#[.string ⟨x.1.1.toArray⟩,.int .i64 (x.1.2:Nat)]) (KpL BA BT BS) BA (fun xs=>xs.map (·.1)=yH s.length s 0) (fun pre=>∃r,pre.map (·.1)++r=yH s.length s 0) s.length w:=fun l J Jx W hW hJ hJx hY h0=>by
 have hL2:LSt W BA BT BS s 0:=⟨hL.a.below hW hL.a.lt,hL.t.below hW hL.t.lt,hL.s.below hW hL.s.lt⟩
 refine(zcE s (by omega) BA BT BS l hne (fun pre W=>∃pre':List Ln,pre'.map (·.1)=pre∧J pre' W) (fun pre W=>∃pre':List Ln,pre'.map (·.1)=pre∧Jx pre' W) ?_ ?_ W hL2 ⟨[],rfl,h0⟩).mono ?_
 ·rintro pre A A' ⟨pre',rfl,hj⟩ hc
  exact⟨pre',rfl,hJ _ A A' hj hc⟩
 ·rintro pre x W1 hx1 hx2 ⟨pre',rfl,hj⟩ hlen
  have h:=hY pre' ⟨x,by omega,by omega⟩ W1 hj (by simpa using hlen)
  obtain⟨fn,tmps,assign,body,hy,hR⟩:=h
  refine⟨fn,tmps,assign,body,hy,hR.mono ?_⟩
  rintro e W' (⟨he,hj',hk⟩|⟨he,hj'⟩)
  ·exact .inl ⟨he,⟨_,by simp,hj'⟩,hk⟩
  ·exact .inr ⟨he,⟨_,by simp,hj'⟩⟩
 ·rintro e W' ⟨he,⟨xs,rfl,pre',hm,hj⟩|⟨pre,⟨r,hr⟩,pre',rfl,hj⟩⟩
  ·exact⟨he,.inl ⟨pre',hm,hj⟩⟩
  ·exact⟨he,.inr ⟨pre',⟨r,hr⟩,hj⟩⟩
end Go.Proofs.YtfhlhdmhgheonaaGreatDoor
namespace Go.Proofs.YtfhlhdmhgheonaaGreatDoor
open Go.Shelf Go.RowKit
def vQ (pre:List Ln):List (List UInt8):=pre.foldl (fun g x=>xL g x.1.1) []
theorem vV (pre:List Ln)(x:Ln):vQ (pre++[x])=xL (vQ pre) x.1.1:=by simp[vQ]
theorem Yf:∀(pre:List Ln) (r:List (List UInt8×Nat)) (g:List (List UInt8)) (b:Nat),(∀x∈pre,x.1.1≠[])→xh (pre.map (·.1)++r) g b=xh r (pre.foldl (fun g x=>xL g x.1.1) g) b
 |[],_,_,_,_=>rfl
 |⟨(t,p),hx⟩ :: pre,r,g,b,h=>by
  have h0:¬t=[]:=h ⟨(t,p),hx⟩ (by simp)
  rw[List.map_cons,List.cons_append,xh,if_neg h0,Yf pre r _ b (fun y hy=>h y (by simp[hy]))]
  rfl
theorem zbC {L:List (List UInt8×Nat)}{pre:List Ln}{b:Nat}(hL:pre.map (·.1)=L)(h:∀x∈pre,x.1.1≠[]):xh L [] b=(vQ pre,b):=by
 have:=Yf pre [] [] b h
 rw[List.append_nil,hL] at this
 exact this
theorem QL {L r:List (List UInt8×Nat)}{pre:List Ln}{x:Ln}{b:Nat}(hL:(pre++[x]).map (·.1)++r=L)(h:∀x∈pre,x.1.1≠[])(hx:x.1.1=[]):xh L [] b=(vQ pre,x.1.2):=by
 have a:=Yf pre (x.1 :: r) [] b h
 rw[List.map_append,List.append_assoc] at hL
 have c:pre.map (·.1)++x.1 :: r=L:=hL
 rw[c] at a
 rw[a]
 obtain⟨⟨t,p⟩,d⟩:=x
 simp only at hx
 subst hx
 rfl
structure GSt (W0 W:World)(N:Nat)(g:List (List UInt8))(bp:Nat):Prop where
 cell:∃v h,Blk W (N+1) 38 #[v]∧Sl W 9 1 v h g.length (g.map encStr)∧∀b,h=some b→N+5≤b
 body:Blk W N 3 #[.int .i64 bp]
 below:Below N W0 W
theorem GSt.abide {W0 W W':World}{N:Nat}{g:List (List UInt8)}{bp:Nat}{S:List Nat}(h:GSt W0 W N g bp)(hc:Chg S W W')(hS:∀k∈S,N+2≤k∧∀t cs,W.heap[k]?≠some (.cells cs t (0,0))∨k < N+5)(hsz:N≤W.heap.size):GSt W0 W' N g bp:=by
 obtain⟨⟨v,d,e,a,c⟩,f,i⟩:=h
 refine⟨⟨v,d,e.chg hc (fun hm=>?_),a.chg hc (fun b hb hm=>?_),c⟩,f.chg hc (fun hm=>?_),i.trans (hc.below hsz fun k hk=>?_)⟩
 ·have:=(hS _ hm).1
  omega
 ·have j:=c b hb
  rcases a.2 with⟨hn,_⟩|⟨b',off',cap',cur,hh',hv,hB,_⟩
  ·rw[hb] at hn
   cases hn
  ·rw[hb] at hh'
   obtain rfl:=Option.some.inj hh'
   rcases(hS b hm).2 _ cur with h7|h7
   ·exact h7 hB
   ·omega
 ·have:=(hS _ hm).1
  omega
 ·have:=(hS k hk).1
  omega
structure GI (W0 W:World)(N len:Nat)(pre:List Ln):Prop where
 st:GSt W0 W N (vQ pre) len
 ne:∀x∈pre,x.1.1≠[]
 gne:∀t∈vQ pre,t≠[]
 sum:YH (vQ pre)≤pre.length * 2147483648
 glen:(vQ pre).length≤pre.length
 size:N+5≤W.heap.size
structure GX (W0 W:World)(N:Nat)(pre:List Ln):Prop where
 pre_:∃p0 x,pre=p0++[x]∧x.1.1=[]∧GSt W0 W N (vQ p0) x.1.2∧(∀x∈p0,x.1.1≠[])∧(∀t∈vQ p0,t≠[])∧YH (vQ p0)≤p0.length * 2147483648∧(vQ p0).length≤p0.length
 size:N+5≤W.heap.size
theorem GI.abide {W0 W W':World}{N len:Nat}{pre:List Ln}{S:List Nat}(h:GI W0 W N len pre)(hc:Chg S W W')(hS:∀k∈S,N+2≤k∧∀t cs,W.heap[k]?≠some (.cells cs t (0,0))∨k < N+5):GI W0 W' N len pre:=
 ⟨h.st.abide hc hS (by have:=h.size;omega),h.ne,h.gne,h.sum,h.glen,Nat.le_trans h.size hc.size⟩
theorem GX.abide {W0 W W':World}{N:Nat}{pre:List Ln}{S:List Nat}(h:GX W0 W N pre)(hc:Chg S W W')(hS:∀k∈S,N+2≤k∧∀t cs,W.heap[k]?≠some (.cells cs t (0,0))∨k < N+5):GX W0 W' N pre:=by
 obtain⟨⟨a,x,b,c,d,e⟩,f⟩:=h
 exact⟨⟨a,x,b,c,d.abide hc hS (by omega),e⟩,Nat.le_trans f hc.size⟩
theorem row_ok {W:World}{N:Nat}{row:Option Nat}(hr:∀r,row=some r→N+5≤r∧∃o:Obj,W.heap[r]?=some o∧o.isCells=false):∀k∈row.toList,N+2≤k∧∀t cs,W.heap[k]?≠some (.cells cs t (0,0))∨k < N+5:=by
 intro k a
 obtain⟨d,o,b,c⟩:=hr k (by simpa using a)
 refine⟨by omega,fun t cs=>.inl fun e=>?_⟩
 rw[b] at e
 injection e with e
 subst e
 cases c
theorem GI.own (W0:World)(N len:Nat):OwnFrom (N+5) (fun pre W=>GI W0 W N len pre):=fun _ _ _ row h hg hr=>h.abide (Chg.XW hg) (row_ok (row:=row) hr)
theorem GX.own (W0:World)(N:Nat):OwnFrom (N+5) (fun pre W=>GX W0 W N pre):=fun _ _ _ row h hg hr=>h.abide (Chg.XW hg) (row_ok (row:=row) hr)
theorem GI.cell3 {W0 W W':World}{N len:Nat}{pre:List Ln}(h:GI W0 W N len pre)(hc:Chg [N+3] W W'):GI W0 W' N len pre:=
 h.abide hc fun k hk=>by
  simp only[List.mem_singleton] at hk
  subst hk
  exact⟨by omega,fun _ _=>.inr (by omega)⟩
theorem GX.cell3 {W0 W W':World}{N:Nat}{pre:List Ln}(h:GX W0 W N pre)(hc:Chg [N+3] W W'):GX W0 W' N pre:=
 h.abide hc fun k hk=>by
  simp only[List.mem_singleton] at hk
  subst hk
  exact⟨by omega,fun _ _=>.inr (by omega)⟩
theorem Yt {W W':World}{S:List Nat}(hc:Chg S W W')(hS:∀k∈S,∃t cs,Blk W k t cs):KeepsOthers W W':=
 ⟨hc.size,fun k o hk ho=>by
  have hlt:k < W.heap.size:=(Array.getElem?_eq_some_iff.1 hk).1
  rw[hc.block k hlt (fun hm=>by
   obtain⟨t,cs,hB⟩:=hS k hm
   unfold Blk at hB
   rw[hk] at hB
   injection hB with hB
   subst hB
   cases ho)]
  exact hk⟩
theorem kpL_of {N:Nat}{W W':World}{S:List Nat}(hc:Chg S W W')(hS:∀k∈S,k=N∨k=N+1∨N+5≤k)(hsz:N+5≤W.heap.size):KpL (N+3) (N+4) (N+2) W W':=by
 refine⟨hc.block _ (by omega) fun hm=>?_,hc.block _ (by omega) fun hm=>?_,hc.block _ (by omega) fun hm=>?_⟩ <;> (have:=hS _ hm;omega)
theorem Sl.isBlk {w:World}{e:TypeId}{size n:Nat}{v:Value}{h:Option Nat}{xs:List Value}(hs:Sl w e size v h n xs):∀k∈h.toList,∃t cs,Blk w k t cs:=by
 intro k a
 have a:h=some k:=by simpa using a
 rcases hs.2 with⟨hn,_⟩|⟨b',off',cap',cur,hh,hv,hB,_⟩
 ·rw[a] at hn
  cases hn
 ·rw[a] at hh
  obtain rfl:=Option.some.inj hh
  exact⟨e,cur,hB⟩
theorem GI.push {w W w2:World}{N len:Nat}{pre:List Ln}(h:GI w W N len pre)(x:Ln)(hne:x.1.1≠[])(hadd:vQ (pre++[x])=vQ pre++[x.1.1]){n:Nat}(hn:(vQ pre).length=n){v v':Value}{hh h':Option Nat}(hB:Blk W (N+1) 38 #[v])(hs:Sl W 9 1 v hh n ((vQ pre).map encStr))(hf:∀b,hh=some b→N+5≤b)(hs2:Sl w2 9 1 v' h' (n+1) ((vQ pre).map encStr++[encStr x.1.1]))(hc:Chg hh.toList W w2)(ho:h'=hh∨∃g,h'=some g∧W.heap.size≤g) :
  KeepsOthers W (w2.setCell ⟨N+1,0,none⟩ v')∧KpL (N+3) (N+4) (N+2) W (w2.setCell ⟨N+1,0,none⟩ v')∧GI w (w2.setCell ⟨N+1,0,none⟩ v') N len (pre++[x]):=by
 subst hn
 have f:=h.size
 have a:Chg ((N+1) :: hh.toList) W (w2.setCell ⟨N+1,0,none⟩ v'):=(hc.mono fun k hk=>.inl (List.mem_cons_of_mem _ hk)).set (.inl (by simp)) v'
 have j:∀k∈(N+1) :: hh.toList,k=N∨k=N+1∨N+5≤k:=fun k hk=>by
  rcases List.mem_cons.1 hk with rfl|hk
  ·exact .inr (.inl rfl)
  ·exact .inr (.inr (hf k (by simpa using hk)))
 have c:∀b,h'=some b→N+5≤b:=fun b hb=>by
  rcases ho with i|⟨g,i,l⟩
  ·exact hf b (by rw[←i];exact hb)
  ·rw[i] at hb
   injection hb with hb
   omega
 have m:=x.2.1
 refine⟨Yt a fun k hk=>?_,kpL_of a j f,⟨⟨⟨v',h',?_,?_,c⟩,?_,?_⟩,?_,?_,?_,?_,Nat.le_trans f a.size⟩⟩
 ·rcases List.mem_cons.1 hk with rfl|hk
  ·exact⟨_,_,hB⟩
  ·exact hs.isBlk k hk
 ·exact(hB.chg hc (fun hm=>by have:=hf (N+1) (by simpa using hm);omega)).set 0 v'
 ·rw[hadd,List.length_append,List.length_singleton,List.map_append]
  exact hs2.far (p:=⟨N+1,0,none⟩) (fun e=>by have:=c _ e;simp at this) v'
 ·exact(h.st.body.chg hc (fun hm=>by have:=hf N (by simpa using hm);omega)).far (p:=⟨N+1,0,none⟩) (by simp) v'
 ·exact h.st.below.trans (a.below (by omega) fun k hk=>by have:=j k hk;omega)
 ·intro y d
  rcases List.mem_append.1 d with d|d
  ·exact h.ne y d
  ·rw[List.mem_singleton] at d
   subst d
   exact hne
 ·rw[vV]
  exact Xi h.gne hne
 ·rw[vV,uU,List.length_append,List.length_singleton]
  have:=h.sum
  omega
 ·rw[vV,List.length_append,List.length_singleton]
  have i:=Zg (vQ pre) x.1.1
  have l:=h.glen
  omega
theorem GI.join {w W:World}{N len:Nat}{pre:List Ln}(h:GI w W N len pre)(x:Ln)(hne:x.1.1≠[])(k:Nat)(hk:(vQ pre).length=k+1)(hk2:k < (vQ pre).length)(hadd:vQ (pre++[x])=(vQ pre).set k ((vQ pre)[k]++x.1.1)){b off n cap:Nat}{hh:Option Nat}(hB:Blk W (N+1) 38 #[.slice (some ⟨b,off,none⟩) n cap])(hn:(vQ pre).length=n)(hs:Sl W 9 1 (.slice (some ⟨b,off,none⟩) n cap) hh n ((vQ pre).map encStr))(hf:∀b,hh=some b→N+5≤b) :
  KeepsOthers W (W.setCell ⟨b,off+k,none⟩ (encStr ((vQ pre)[k]++x.1.1)))∧KpL (N+3) (N+4) (N+2) W (W.setCell ⟨b,off+k,none⟩ (encStr ((vQ pre)[k]++x.1.1)))∧GI w (W.setCell ⟨b,off+k,none⟩ (encStr ((vQ pre)[k]++x.1.1))) N len (pre++[x]):=by
 have d:=h.size
 subst hn
 have f:hh=some b:=hs.owner
 have e:=hf b f
 have a:Chg [b] W (W.setCell ⟨b,off+k,none⟩ (encStr ((vQ pre)[k]++x.1.1))):=(Chg.refl [b] W).set (.inl (by simp)) _
 have g:∀j∈[b],j=N∨j=N+1∨N+5≤j:=fun j hj=>by
  rw[List.mem_singleton] at hj
  subst hj
  exact .inr (.inr e)
 have l:=x.2.1
 refine⟨Yt a fun j hj=>?_,kpL_of a g d,⟨⟨⟨.slice (some ⟨b,off,none⟩) (vQ pre).length cap,hh,?_,?_,hf⟩,?_,?_⟩,?_,?_,?_,?_,Nat.le_trans d a.size⟩⟩
 ·rw[List.mem_singleton] at hj
  subst hj
  exact hs.isBlk j (by rw[f];simp)
 ·exact hB.far (p:=⟨b,off+k,none⟩) (by simp only;omega) _
 ·have i:=hs.store k (encStr ((vQ pre)[k]++x.1.1))
  rw[hadd,List.length_set,List.map_set]
  exact i
 ·exact h.st.body.far (p:=⟨b,off+k,none⟩) (by simp only;omega) _
 ·exact h.st.below.trans (a.below (by omega) fun j hj=>by have:=g j hj;omega)
 ·intro y c
  rcases List.mem_append.1 c with c|c
  ·exact h.ne y c
  ·rw[List.mem_singleton] at c
   subst c
   exact hne
 ·rw[vV]
  exact Xi h.gne hne
 ·rw[vV,uU,List.length_append,List.length_singleton]
  have:=h.sum
  omega
 ·rw[vV,List.length_append,List.length_singleton]
  have i:=Zg (vQ pre) x.1.1
  have m:=h.glen
  omega
theorem GI.stop {w W:World}{N len:Nat}{pre:List Ln}(h:GI w W N len pre)(x:Ln)(hx:x.1.1=[]):KeepsOthers W (W.setCell ⟨N,0,none⟩ (.int .i64 (x.1.2:Nat)))∧GX w (W.setCell ⟨N,0,none⟩ (.int .i64 (x.1.2:Nat))) N (pre++[x]):=by
 have b:=h.size
 have a:Chg [N] W (W.setCell ⟨N,0,none⟩ (.int .i64 (x.1.2:Nat))):=(Chg.refl [N] W).set (.inl (by simp)) _
 obtain⟨v,d,f,g,c⟩:=h.st.cell
 refine⟨Yt a fun j hj=>?_,⟨⟨pre,x,rfl,hx,⟨⟨v,d,?_,?_,c⟩,?_,?_⟩,h.ne,h.gne,h.sum,h.glen⟩,Nat.le_trans b a.size⟩⟩
 ·rw[List.mem_singleton] at hj
  subst hj
  exact⟨_,_,h.st.body⟩
 ·exact f.far (p:=⟨N,0,none⟩) (by simp) _
 ·exact g.far (p:=⟨N,0,none⟩) (fun e=>by have:=c _ e;simp at this;omega) _
 ·exact h.st.body.set 0 _
 ·exact h.st.below.trans (a.below (by omega) fun j hj=>by simp at hj;omega)
theorem XD {g:List (List UInt8)}{t:List UInt8}{k:Nat}(hk:g.length=k+1)(hk2:k < g.length)(hb:yt t=true):xL g t=g.set k (g[k]++t):=by
 have a:g≠[]:=by
  rintro rfl
  simp at hk
 obtain⟨b,z,rfl⟩:∃b z,g=b++[z]:=⟨g.dropLast,g.getLast a,(List.dropLast_concat_getLast _).symm⟩
 have c:b.length=k:=by simpa using hk
 subst c
 unfold xL
 rw[if_pos ⟨a,hb⟩]
 simp
theorem YV {g:List (List UInt8)}{t:List UInt8}(hb:g=[]∨yt t=false):xL g t=g++[t]:=by
 unfold xL
 rw[if_neg]
 rintro⟨b,a⟩
 rcases hb with hb|hb
 ·exact b hb
 ·rw[hb] at a
  cases a
theorem Zd {F:Fence}{n':Nat}{P:Program}{W:World}{cs:Array Value}{e':TypeId}{ops:Array Oper}{rest:List Oper}{o:Oper}{a:Act}{Q:Exit→Act→World→Prop}(hgd:o.guard=none)(s x:Operand)(t:TypeId)(ho:o.op=.call {callee:=.builtin .append,args:=#[s,x],argTypes:=#[t,t]}){e:TypeId}{i:TypeInfo}{z:Value}{size bytes:Nat}(ht:P.underlying t=some (.slice e))(hi:P.info? e=some i)(hz:i.zero=some z)(hsize:i.size=size)(hby:i.bytes=bytes)(hzs:z.cells.size=size)(hsz:0 < size){v:Value}{h:Option Nat}{n:Nat}{xs:List Value}(hsl:Sl W e size v h n xs)(hs:a.eval s=v)(m c:Nat)(hx:a.eval x=.slice (some ⟨W.heap.size,0,none⟩) m c)(hl:cs.toList.length=m * size)(h1:∀u∈cs.toList,u.oneCell'=true)(h63:n+m≤maxLen)(hbytes:(n+m) * bytes≤140737488355328)(hk:∀v' h' w',Sl w' e size v' h' (n+m) (xs++cs.toList)→Chg h.toList W w'→(h'=h∨∃g,h'=some g∧W.heap.size≤g)→wpListIn F n' P ops Q rest (a.put o.dst v') w') :
  wpListIn F n' P ops Q (o :: rest) a (W.alloc (.cells cs e')):=by
 refine wpListIn_plain hgd fun K hK'=>?_
 obtain⟨v',h',w',f,l,b,p⟩:=xG (P:=P) (W.alloc (.cells cs e')) (ty:=o.type) ht hi hz hsize hby hzs hsz (hsl.alloc _) ⟨W.heap.size,0,none⟩ m c cs.toList hl (fun j u hj=>by
  rw[Addr.uy,World.cell?_alloc_at _ _ _ _ rfl]
  simpa using hj) h1 h63 hbytes
 unfold Oper.wpIn
 refine⟨?_,?_⟩
 ·simp[Oper.about,ho,resolve,Target.leads,Sem.run_pure]
 ·rw[Oper.semAt_plain F _ _ (by rw[ho];intro c d;cases d)]
  simp[execOp,ho,resolve,invoke,builtin,hs,hx,f,Result.andThen]
  refine hK' _ _ (hk v' h' w' l ⟨b.os,b.tape,b.output,Nat.le_trans (by simp) b.size,fun k hk hn=>(b.block k (by simp;omega) hn).trans (Below.heap_alloc _ _ _ hk)⟩ ?_)
  rcases p with h2|⟨g,h2,h3⟩
  ·exact .inl h2
  ·exact .inr ⟨g,h2,by simp at h3;omega⟩
/-! ### The fields -/
theorem um (a b:List (List UInt8)):zS (a++b)=zS a++zS b:=by simp[zS]
def vg (s:List UInt8):List (List UInt8×List UInt8):=if (YP s).2 then [(YP s).1] else []
theorem uT (s:List UInt8):zS [s]=vg s:=by
 unfold zS vg
 by_cases h:(YP s).2=true <;> simp[h]
theorem XK (s:List UInt8)(r:List (List UInt8)):zD ((s :: r).take 1)=if yt s=true then [] else vg s:=by
 show zS (if yt s=true then [] else [s])=_
 split
 ·rfl
 ·exact uT s
theorem XH (g:List (List UInt8))(k:Nat)(hk:k < g.length)(h0:0 < k):zD (g.take (k+1))=zD (g.take k)++vg g[k]:=by
 rw[List.take_succ_eq_append_getElem hk]
 cases g with
 |nil=>simp at hk
 |cons s r=>
  obtain⟨j,rfl⟩:∃j,k=j+1:=⟨k - 1,by omega⟩
  rw[List.take_succ_cons,List.cons_append]
  show zS (if yt s=true then _ else _)=zS (if yt s=true then _ else _)++_
  split
  ·rw[um,uT]
  ·rw[←List.cons_append,um,uT]
theorem uP:∀(f:Nat) (s:List UInt8) (p:Nat),(yH f s p).length≤f
 |0,_,_=>by simp[yH]
 |f+1,s,p=>by
  unfold yH
  split
  ·simp
  ·split
   ·simp
   ·have:=uP f (s.drop ((Lib.indexByte s 10).toNat+1)) (p+((Lib.indexByte s 10).toNat+1))
    simp only[List.length_cons]
    omega
theorem Ui (g:List (List UInt8))(k:Nat):(zD (g.take k)).length≤k:=by
 have h:∀l:List (List UInt8),(zD l).length≤l.length:=by
  intro l
  cases l with
  |nil=>simp[zD]
  |cons s r=>
   show (zS _).length≤_
   unfold zS
   refine Nat.le_trans (List.length_filterMap_le _ _) ?_
   split <;> simp
 exact Nat.le_trans (h _) (by rw[List.length_take];omega)
def Xu (l:List (List UInt8×Nat)):Nat:=(l.map fun x=>x.1.length).sum
theorem Vt (a b:List (List UInt8×Nat)):Xu (a++b)=Xu a+Xu b:=by simp[Xu]
theorem ZC:∀(f:Nat) (s:List UInt8) (p:Nat),Xu (yH f s p)≤s.length
 |0,_,_=>by simp[yH,Xu]
 |f+1,s,p=>by
  unfold yH
  split
  ·simp[Xu]
  ·split
   ·simp[Xu]
   ·rename_i h2
    have h1:=ZC f (s.drop ((Lib.indexByte s 10).toNat+1)) (p+((Lib.indexByte s 10).toNat+1))
    have h3:=trimSuffix_le (s.take (Lib.indexByte s 10).toNat) [13]
    have h4:=Yd s 10 h2
    simp only[List.length_drop,List.length_take] at h1 h3
    have h5:∀(t:List UInt8) (q:Nat) (l:List (List UInt8×Nat)),Xu ((t,q) :: l)=t.length+Xu l:=fun t q l=>by simp[Xu]
    rw[h5]
    omega
theorem Jr (pre:List Ln):YH (vQ pre)=Xu (pre.map (·.1)):=by
 have h:∀(l:List Ln) (g:List (List UInt8)),YH (l.foldl (fun g x=>xL g x.1.1) g)=YH g+Xu (l.map (·.1)):=by
  intro l
  induction l with
  |nil=>intro g;simp[Xu]
  |cons x r ih=>
   intro g
   rw[List.foldl_cons,ih,uU]
   simp[Xu]
   omega
 have:=h pre []
 simpa[vQ,YH] using this
structure GF (W0 W:World)(N:Nat)(s:List UInt8)(g:List (List UInt8))(bp:Nat):Prop where
 st:GSt W0 W N g bp
 gne:∀t∈g,t≠[]
 sum:YH g≤2147483648
 glen:g.length≤2147483648
 size:N+5≤W.heap.size
 fields:(xw s).1=zD g
 body:(xw s).2=bp
theorem GI.gf {W0 W:World}{N:Nat}{s:List UInt8}{xs:List Ln}(h:GI W0 W N s.length xs)(hs:s.length≤2147483648)(hS:xs.map (·.1)=yH s.length s 0):GF W0 W N s (vQ xs) s.length:=by
 have a:=zbC (b:=s.length) hS h.ne
 have c:xs.length≤s.length:=by
  have:=uP s.length s 0
  rw[←hS,List.length_map] at this
  exact this
 have d:YH (vQ xs)≤s.length:=by
  rw[Jr,hS]
  exact ZC _ _ _
 have e:=h.glen
 have f:(xw s).1=zD (vQ xs):=by
  unfold xw
  rw[a]
 have g:(xw s).2=s.length:=by
  unfold xw
  rw[a]
 exact⟨h.st,h.gne,Nat.le_trans d hs,Nat.le_trans e (Nat.le_trans c hs),h.size,f,g⟩
theorem GX.gf {W0 W:World}{N:Nat}{s:List UInt8}{pre:List Ln}(h:GX W0 W N pre)(hs:s.length≤2147483648)(hS:∃r,pre.map (·.1)++r=yH s.length s 0):∃g bp,GF W0 W N s g bp:=by
 obtain⟨⟨c,x,rfl,q,d,e,a,_,f⟩,i⟩:=h
 obtain⟨r,j⟩:=hS
 have k:=QL (b:=s.length) j e q
 have l:c.length≤s.length:=by
  have:=uP s.length s 0
  rw[←j] at this
  simp only[List.length_append,List.length_map,List.length_singleton] at this
  omega
 have m:YH (vQ c)≤s.length:=by
  have n:=ZC s.length s 0
  rw[←j,List.map_append,Vt,Vt] at n
  rw[Jr]
  omega
 have o:(xw s).1=zD (vQ c):=by
  unfold xw
  rw[k]
 have p:(xw s).2=x.1.2:=by
  unfold xw
  rw[k]
 exact⟨vQ c,x.1.2,d,a,Nat.le_trans m hs,Nat.le_trans f (Nat.le_trans l hs),i,o,p⟩
structure Vw (w wr:World)(N:Nat)(g:List (List UInt8))(bp D:Nat)(gv:Value)(hg:Option Nat)(k:Nat)(f:Value):Prop where
 fs:∃h,Sl wr 253 2 f h (zD (g.take k)).length (zk XT (zD (g.take k)))∧∀b,h=some b→N≤b
 gs:Sl wr 9 1 gv hg g.length (g.map encStr)
 gf:∀b,hg=some b→N≤b
 body:Blk wr N 3 #[.int .i64 bp]
 below:Below N w wr
 dD:wr.heap[D]?=some (.deferred (some []))
theorem Vw.later {w wr W:World}{N:Nat}{g:List (List UInt8)}{bp D:Nat}{gv:Value}{hg:Option Nat}{k:Nat}{f:Value}(h:Vw w wr N g bp D gv hg k f)(hN:N≤wr.heap.size)(hb:Below wr.heap.size wr W):Vw w W N g bp D gv hg k f:=by
 obtain⟨c,a,d⟩:=h.fs
 exact⟨⟨c,a.keep (fun b hb2=>hb.block b (a.lt b hb2)),d⟩,h.gs.keep (fun b hb2=>hb.block b (h.gs.lt b hb2)),h.gf,h.body.below hb h.body.lt,h.below.trans (hb.mono hN),(hb.block D (Array.getElem?_eq_some_iff.1 h.dD).1).trans h.dD⟩
theorem Vw.same {w wr:World}{N:Nat}{g:List (List UInt8)}{bp D:Nat}{gv:Value}{hg:Option Nat}{k k':Nat}{f:Value}(h:Vw w wr N g bp D gv hg k f)(he:zD (g.take k')=zD (g.take k)):Vw w wr N g bp D gv hg k' f:=by
 refine⟨?_,h.gs,h.gf,h.body,h.below,h.dD⟩
 rw[he]
 exact h.fs
theorem Vw.more {w wr W2:World}{N:Nat}{g:List (List UInt8)}{bp D:Nat}{gv:Value}{hg:Option Nat}{k:Nat}{f f':Value}{x:List UInt8×List UInt8}(h:Vw w wr N g bp D gv hg k f)(hN:N≤wr.heap.size)(he:zD (g.take (k+1))=zD (g.take k)++[x]){hh h':Option Nat}(hs:Sl wr 253 2 f hh (zD (g.take k)).length (zk XT (zD (g.take k))))(hf:∀b,hh=some b→N≤b)(hs2:Sl W2 253 2 f' h' ((zD (g.take k)).length+1) (zk XT (zD (g.take k))++XT x))(hc:Chg hh.toList wr W2)(ho:h'=hh∨∃g,h'=some g∧wr.heap.size≤g):Vw w W2 N g bp D gv hg (k+1) f':=by
 refine⟨⟨h',?_,fun b hb=>?_⟩,h.gs.chg hc (fun b hb hm=>h.gs.XR hs (by decide) b hb (by simpa using hm)),h.gf,h.body.chg hc (fun hm=>hs.yN h.body (by decide) N (by simpa using hm) rfl),h.below.trans (hc.below hN fun k hk=>hf k (by simpa using hk)),?_⟩
 ·rw[he,List.length_append,List.length_singleton,vJ]
  exact hs2
 ·rcases ho with h3|⟨g2,h3,h4⟩
  ·exact hf b (by rw[←h3];exact hb)
  ·rw[h3] at hb
   injection hb with hb
   omega
 ·refine(hc.block D (Array.getElem?_eq_some_iff.1 h.dD).1 fun hm=>?_).trans h.dD
  obtain⟨t,c,a⟩:=hs.isBlk D hm
  unfold Blk at a
  rw[h.dD] at a
  cases a
theorem Vw.done {w wr:World}{N:Nat}{g:List (List UInt8)}{bp D:Nat}{gv:Value}{hg:Option Nat}{k:Nat}{f:Value}(h:Vw w wr N g bp D gv hg k f)(hND:N≠D)(hN:N≤wr.heap.size)(hD:N≤D) :
  (∃hh,Sl ((wr.drew.setCell ⟨N,0,none⟩ (.int .i64 bp)).putObj D (.deferred none)) 253 2 f hh (zD (g.take k)).length (zk XT (zD (g.take k)))∧∀b,hh=some b→N≤b)∧Below N w ((wr.drew.setCell ⟨N,0,none⟩ (.int .i64 bp)).putObj D (.deferred none))∧
   ((wr.drew.setCell ⟨N,0,none⟩ (.int .i64 bp)).putObj D (.deferred none)).cell? ⟨N,0,none⟩=some (.int .i64 bp)∧(wr.drew.setCell ⟨N,0,none⟩ (.int .i64 bp)).heap[D]?=some (.deferred (some [])):=by
 have i:(wr.drew.setCell ⟨N,0,none⟩ (.int .i64 bp)).heap[D]?=some (.deferred (some [])):=(Below.heap_setCell wr.drew ⟨N,0,none⟩ _ D (fun e=>hND e.symm)).trans h.dD
 have c:Blk (wr.drew.setCell ⟨N,0,none⟩ (.int .i64 bp)) N 3 #[.int .i64 bp]:=(h.body.heap (w':=wr.drew) rfl).set 0 _
 have n:Chg [N,D] wr ((wr.drew.setCell ⟨N,0,none⟩ (.int .i64 bp)).putObj D (.deferred none)):=by
  have a:Chg [N,D] wr (wr.drew.setCell ⟨N,0,none⟩ (.int .i64 bp)):=((Chg.refl [N,D] wr).drew).set (.inl (by simp)) _
  refine⟨a.os,a.tape,a.output,by rw[World.putObj_size];exact a.size,fun j hj hn=>?_⟩
  have l:¬j=N∧¬j=D:=by simpa using hn
  exact(World.putObj_heap_other l.2).trans (a.block j hj hn)
 obtain⟨hh,m,o⟩:=h.fs
 refine⟨⟨hh,m.chg n (fun b hb hm=>?_),o⟩,h.below.trans (n.below hN fun j hj=>?_),?_,i⟩
 ·simp only[List.mem_cons,List.not_mem_nil,or_false] at hm
  rcases hm with rfl|rfl
  ·exact m.yN h.body (by decide) b hb rfl
  ·obtain⟨t,p,d⟩:=m.isBlk b (by simpa using hb)
   unfold Blk at d
   rw[h.dD] at d
   cases d
 ·simp only[List.mem_cons,List.not_mem_nil,or_false] at hj
  omega
 ·have d:Blk ((wr.drew.setCell ⟨N,0,none⟩ (.int .i64 bp)).putObj D (.deferred none)) N 3 #[.int .i64 bp]:=(World.putObj_heap_other hND).trans c
  exact d.cell 0
theorem zcn (s sep:List UInt8):(Lib.cut s sep).1.length≤s.length∧(Lib.cut s sep).2.1.length≤s.length:=by
 unfold Lib.cut
 split
 ·simp only[List.length_take,List.length_drop]
  omega
 ·simp
theorem Yv {g:List (List UInt8)}{t:List UInt8}(h:t∈g):t.length≤YH g:=by
 obtain⟨a,b,rfl⟩:=List.append_of_mem h
 rw[VD,show t :: b=[t]++b from rfl,VD]
 have:YH [t]=t.length:=by simp[YH]
 omega
end Go.Proofs.YtfhlhdmhgheonaaGreatDoor
namespace Go.Proofs.YtfhlhdmhgheonaaGreatDoor
open Go.Shelf Go.RowKit
attribute [local go_sem ↓] Go.wp_at_zero Go.wp_at_succ
attribute [local go_sem] Oper.semAt_some
theorem Try.infoField:(Tryz.prog.info? 253).map (fun i=>(i.zero,i.size,i.bytes))=some (some (.agg #[.string ⟨#[]⟩,.string ⟨#[]⟩]),2,32):=by kernel_rfl
theorem zaL (w:World)(s:List UInt8):GI w (((((w.alloc (.cells #[.int .i64 s.length] 3)).alloc (.cells #[.slice none 0 0] 38)).alloc (.cells #[.string ⟨s.toArray⟩] 9)).alloc (.cells #[.int .i64 0] 3)).alloc (.cells #[.int .i64 s.length] 3)) w.heap.size s.length []:=by
 refine⟨⟨⟨.slice none 0 0,none,?_,Sl.nil _ _ _,fun b hb=>by cases hb⟩,?_,?_⟩,fun x hx=>by simp at hx,fun t ht=>by simp[vQ] at ht,by simp[vQ,YH],by simp[vQ],by simp⟩
 ·exact(((ZV w _ _ _).alloc _).alloc _).alloc _
 ·exact((((Blk.new w _ _).alloc _).alloc _).alloc _).alloc _
 ·exact za (za (za (za (below_alloc1 w _) (below_alloc1 _ _)) (below_alloc1 _ _)) (below_alloc1 _ _)) (below_alloc1 _ _)
theorem QC (w:World)(s:List UInt8):LSt (((((w.alloc (.cells #[.int .i64 s.length] 3)).alloc (.cells #[.slice none 0 0] 38)).alloc (.cells #[.string ⟨s.toArray⟩] 9)).alloc (.cells #[.int .i64 0] 3)).alloc (.cells #[.int .i64 s.length] 3)) (w.heap.size+3) (w.heap.size+4) (w.heap.size+2) s 0:=by
 have a:=Blk.new ((w.alloc (.cells #[.int .i64 s.length] 3)).alloc (.cells #[.slice none 0 0] 38)) 9 #[.string ⟨s.toArray⟩]
 have b:=Blk.new (((w.alloc (.cells #[.int .i64 s.length] 3)).alloc (.cells #[.slice none 0 0] 38)).alloc (.cells #[.string ⟨s.toArray⟩] 9)) 3 #[.int .i64 0]
 have c:=Blk.new ((((w.alloc (.cells #[.int .i64 s.length] 3)).alloc (.cells #[.slice none 0 0] 38)).alloc (.cells #[.string ⟨s.toArray⟩] 9)).alloc (.cells #[.int .i64 0] 3)) 3 #[.int .i64 s.length]
 simp only[World.size_alloc] at a b c
 exact⟨b.alloc _,c,(a.alloc _).alloc _⟩
theorem zc0 {BA BT BS:Nat}{A B C:World}(h:KpL BA BT BS A B)(k:KpL BA BT BS B C):KpL BA BT BS A C:=⟨k.1.trans h.1,k.2.1.trans h.2.1,k.2.2.trans h.2.2⟩
theorem kpL_put {BA BT BS B:Nat}(h:BA < B∧BT < B∧BS < B)(W:World)(l:Nat)(o o':Obj)(hl:B≤l)(_:W.heap[l]?=some o)(_:o.isCells=false)(_:o.isWalk=false):KpL BA BT BS W (W.putObj l o'):=
 ⟨World.putObj_heap_other (by omega),World.putObj_heap_other (by omega),World.putObj_heap_other (by omega)⟩
theorem zde (s:List UInt8)(hs:s.length≤2147483648)(w:World) :
  Calls Tryz.prog 171 #[.string ⟨s.toArray⟩,.int .i64 0,.int .i64 s.length] w fun e w'=>∃v hh,e=.returned (.tuple #[v,.int .i64 ((xw s).2:Nat)])∧Sl w' 253 2 v hh (xw s).1.length (zk XT (xw s).1)∧(∀b,hh=some b→w.heap.size≤b)∧Below w.heap.size w w':=by
 obtain⟨i0,hi,bi,bj,bk⟩:=info_parts Try.infoString
 obtain⟨j0,hj,au,av,aw⟩:=info_parts Try.infoField
 have bc:=fun W=>zdi ⟨s.toArray⟩ 0 s.length W
 have n1:¬(s.length:Int) < 0:=by omega
 refine(callsIn_wide (n:=3)).1 ?_
 refine callsIn_of_wp_marks Tryz.func171 rfl trivial ?_ rfl
 simp only[Tryz.ntmps171,List.size_toArray,List.length_cons,List.length_nil,Nat.reduceAdd,Nat.reduceSub,Array.replicate_succ,Array.replicate_zero,List.push_toArray,List.append_toArray,List.nil_append,List.cons_append]
 refine wpIn_wide.2 ?_
 go_wp2_with (first
  |(go_at_call 203;refine(bc _).mono ?_;rintro e w1 ⟨rfl,rfl⟩;clear bc)
  |fail)
 obtain⟨N,hN⟩:∃N,w.heap.size=N:=⟨_,rfl⟩
 obtain⟨W0,ax⟩:∃W0:World,W0=((((w.alloc (.cells #[.int .i64 s.length] 3)).alloc (.cells #[.slice none 0 0] 38)).alloc (.cells #[.string ⟨s.toArray⟩] 9)).alloc (.cells #[.int .i64 0] 3)).alloc (.cells #[.int .i64 s.length] 3):=⟨_,rfl⟩
 rw[←ax]
 have bd:W0.heap.size=N+5:=by rw[ax];simp;omega
 have aj:LSt W0 (N+3) (N+4) (N+2) s 0:=by
  subst hN
  rw[ax]
  exact QC w s
 have a':GI w W0 N s.length []:=by
  subst hN
  rw[ax]
  exact zaL w s
 rw[hN]
 refine' wpIn_wide.1 (YL (F:=Fence.wide) (n:=3) (N:=s.length) (B:=N+3) rfl (by decide) (gf:=250) (lb:=#[.pointer (some ⟨N+3,0,none⟩),.pointer (some ⟨N+4,0,none⟩),.pointer (some ⟨N+2,0,none⟩)]) rfl trivial (enters_of Tryz.func250 (by kernel_rfl) rfl)
  (zal s hs (N+3) (N+4) (N+2) (by omega) W0 aj) (by omega) zc0 (kpL_put (by omega)) (fun _=>rfl)
  (fun u W=>GI w W N s.length u) (fun c u W=>c=.exit 0∧GX w W N u) (bd ▸ GI.own w N s.length) ?ix (fun u A A' h hc=>h.cell3 hc) (fun c u A A' h hc=>⟨h.1,h.2.cell3 hc⟩) a' _ ?assign ?body ?done ?stop)
 case ix=>
  intro c
  rw[bd]
  exact fun u A A' row h hg hr=>⟨h.1,GX.own w N u A A' row h.2 hg hr⟩
 case assign=>
  intro l x W K hK
  gi_wp2
  exact hK
 case body=>
  rintro l u x W hI b'
  have HI:=zdG hI
  obtain⟨v,hh,hB,an,hf⟩:=hI.st.cell
  obtain⟨n,hn⟩:∃n,(vQ u).length=n:=⟨_,rfl⟩
  rw[hn] at an
  have HB:=zdG hB
  have HF:=zdG hf
  have HS:=zdG an
  have c1:W.cell? ⟨N+1,0,none⟩=some v:=hB.cell 0
  have f1:W.frozen? ⟨N+1,0,none⟩=false:=hB.frozen 0
  have c0:W.cell? ⟨N,0,none⟩=some (.int .i64 s.length):=hI.st.body.cell 0
  have f0:W.frozen? ⟨N,0,none⟩=false:=hI.st.body.frozen 0
  have bo:=hI.glen
  rw[hn] at bo
  have HN:=zdG hn
  have bz:=hI.sum
  have be:=x.2.1
  clear hI hB hf hn
  obtain⟨t,b9⟩:∃t,x.1.1=t:=⟨_,rfl⟩
  obtain⟨nx,ba⟩:∃nx,x.1.2=nx:=⟨_,rfl⟩
  have HX:=zdG b9
  have U:=zdG ba
  rw[b9] at be ⊢
  rw[ba]
  clear b9 ba
  obtain⟨A,G,rfl,bu,bv⟩:=an.form
  clear bu bv
  rcases t with _|⟨c,r⟩
  ·have b1:=HI.out.stop x HX.out
   rw[U.out] at b1
   have bf:=zdG b1
   clear b1
   gi_wp2
   exact⟨bf.out.1,rfl,bf.out.2⟩
  ·have ay:∀h:0 < (⟨(c :: r).toArray⟩:ByteArray).size,(⟨(c :: r).toArray⟩:ByteArray)[0]'h=c:=fun _=>rfl
   have S:x.1.1≠[]:=by rw[HX.out];simp
   have b2:=zdG S
   clear S
   have J:yt (c :: r)=(decide (c=32)||decide (c=9)):=by simp[yt]
   by_cases hg:vQ u=[]
   ·have R:vQ (u++[x])=vQ u++[x.1.1]:=by rw[vV];exact YV (.inl hg)
    have ak:=zdG R
    have bq:n=0:=by rw[←HN.out,hg];rfl
    subst bq
    clear R J hg
    ·gi_wp2_with (first
      |(gi_at_builtin;refine Zd rfl _ _ 38 rfl Tryz.underlying38 hi bi bj bk rfl (by decide) HS.out rfl 1 1 rfl rfl ?_ ?_ ?_ ?_)
      |fail)
     any_goals (first|(simp[Value.oneCell'];done)|(unfold maxLen;omega)|omega|rfl)
     ·intro v2 P w3 ag a6 ao
      obtain⟨A2,bl,rfl,_,_⟩:=ag.form
      have hp:=HI.out.push x b2.out ak.out HN.out HB.out HS.out HF.out (by rw[HX.out];exact ag) a6 ao
      have k1:w3.cell? ⟨N+1,0,none⟩=some (.slice A 0 G):=(HB.out.chg a6 (fun hm=>by have:=HF.out (N+1) (by simpa using hm);omega)).cell 0
      have kf:w3.frozen? ⟨N+1,0,none⟩=false:=(HB.out.chg a6 (fun hm=>by have:=HF.out (N+1) (by simpa using hm);omega)).frozen 0
      have ai:=zdG hp
      clear ag a6 ao hp
      gi_wp2
      exact ai.out
   ·obtain⟨k,rfl⟩:∃k,n=k+1:=⟨n - 1,by
     have h1:(vQ u).length≠0:=fun h=>hg (List.eq_nil_of_length_eq_zero h)
     rw[HN.out] at h1
     omega⟩
    have g0:(0:Int) < (k:Int)+1:=by omega
    by_cases q:yt (c :: r)=true
    ·have I:k < (vQ u).length:=by rw[HN.out];omega
     have R:vQ (u++[x])=(vQ u).set k ((vQ u)[k]++x.1.1):=by
      rw[vV]
      exact XD HN.out I (by rw[HX.out];exact q)
     obtain⟨b,bw,c2,c6,hv,_,_,c3,bm⟩:=an.at_ (by omega)
     injection hv with hv1 hv2 a7
     subst hv1 a7
     clear hv2
     have hp:=HI.out.join x b2.out k HN.out I R HB.out HN.out HS.out HF.out
     obtain⟨bn,cb⟩:=bm k (by omega)
     have ca:W.cell? ⟨b,bw+k,none⟩=some (.string ⟨(vQ u)[k].toArray⟩):=bn.trans (by simp[I,encStr])
     clear bn
     have al:(vQ u)[k].length≤YH (vQ u):=Yv (List.getElem_mem I)
     rw[HX.out] at hp
     generalize (vQ u)[k]=la at ca hp al
     have ai:=zdG hp
     have g5:IntKind.i64.wrap ((k:Int)+1 - 1)=(k:Int):=by rw[show (k:Int)+1 - 1=k from by omega];exact IntWalk.i64_in _ (by omega)
     have g6:IntKind.i64.wrap (k:Int)=(k:Int):=IntWalk.i64_in _ (by omega)
     have g7:(k:Int) < (k:Int)+1:=by omega
     have g8:(0:Int)≤(k:Int):=by omega
     have c4:r.length+1≤2147483648:=by simpa using be
     have n2:¬9223372036854775807 < la.length+(r.length+1):=by omega
     have c5:=fun(a b:List UInt8)=>ByteArray.mk_append_mk a b
     have hc:c=32∨c=9:=by
      rw[J] at q
      simpa using q
     clear q J bm R hg hp al an
     rcases hc with rfl|rfl
     ·gi_wp2
      exact ai.out
     ·gi_wp2
      exact ai.out
    ·have R:vQ (u++[x])=vQ u++[x.1.1]:=by rw[vV];exact YV (.inr (by rw[HX.out];simpa using q))
     have ak:=zdG R
     have hc:¬c=32∧¬c=9:=by
      rw[J] at q
      simpa using q
     have a9:¬(c.toNat:Int)=32:=fun h=>hc.1 (by
      have P:c.toNat=32:=by omega
      exact UInt8.toNat_inj.1 P)
     have h9:¬(c.toNat:Int)=9:=fun h=>hc.2 (by
      have P:c.toNat=9:=by omega
      exact UInt8.toNat_inj.1 P)
     have az:((c.toNat:Int)==32)=false:=by simpa using a9
     have bg:((c.toNat:Int)==9)=false:=by simpa using h9
     clear R J hg q hc a9 h9
     ·gi_wp2_with (first
       |(gi_at_builtin;refine Zd rfl _ _ 38 rfl Tryz.underlying38 hi bi bj bk rfl (by decide) HS.out rfl 1 1 rfl rfl ?_ ?_ ?_ ?_)
       |fail)
      any_goals (first|(simp[Value.oneCell'];done)|(unfold maxLen;omega)|omega|rfl)
      ·intro v2 P w3 ag a6 ao
       obtain⟨A2,bl,rfl,_,_⟩:=ag.form
       have hp:=HI.out.push x b2.out ak.out HN.out HB.out HS.out HF.out (by rw[HX.out];exact ag) a6 ao
       have k1:w3.cell? ⟨N+1,0,none⟩=some (.slice A (k+1) G):=(HB.out.chg a6 (fun hm=>by have:=HF.out (N+1) (by simpa using hm);omega)).cell 0
       have kf:w3.frozen? ⟨N+1,0,none⟩=false:=(HB.out.chg a6 (fun hm=>by have:=HF.out (N+1) (by simpa using hm);omega)).frozen 0
       have ai:=zdG hp
       clear ag a6 ao hp
       gi_wp2
       exact ai.out
 case done=>
  rintro D xs W hD hS hI hK
  obtain⟨g,T,hF⟩:∃g T,GF w W N s g T:=⟨_,_,hI.gf hs hS⟩
  clear hI hS
  obtain⟨gv,hg,ap,ah,aq⟩:=hF.st.cell
  obtain⟨A,G,rfl,_,_⟩:=ah.form
  obtain⟨n,hn⟩:∃n,g.length=n:=⟨_,rfl⟩
  have bh:D < W.heap.size:=(Array.getElem?_eq_some_iff.1 hK).1
  have c1:W.cell? ⟨N+1,0,none⟩=some (.slice A n G):=by rw[←hn];exact ap.cell 0
  have HR:Hid (Vw w W N g T D (.slice A n G) hg 0 (.slice none 0 0)):=zdG ⟨⟨none,Sl.nil _ _ _,fun b q=>by cases q⟩,by rw[←hn];exact ah,fun b q=>by have:=aq b q;omega,hF.st.body,hF.st.below,hK⟩
  have HF:=zdG hF
  have HN:=zdG hn
  have br:n≤2147483648:=by rw[←hn];exact hF.glen
  have b4:N≤W.heap.size:=by have:=hF.size;omega
  clear ap ah aq hF hn hK a' aj
  go_wp2_with fail
  go_loopw [6,68] (fun f i wr=>∃k:Nat,k≤n∧i=.int .i64 k∧Hid (Vw w wr N g T D (.slice A n G) hg k f)∧Hid (N≤wr.heap.size)) (fun _ i _=>n - (intOf i).toNat)
  case atStart=>exact⟨0,Nat.zero_le _,rfl,HR,zdG b4⟩
  case round=>
   obtain⟨k,hk,rfl,HU,j⟩:=hrel
   by_cases b8:k < n
   ·have I:k < g.length:=by rw[HN.out];exact b8
    obtain⟨b3,H,bb,_,a7,_,_,bx,aa⟩:=HU.out.gs.at_ (by omega)
    injection a7 with hv1 hv2 a7
    subst hv1 a7
    clear hv2
    have cs:wr.cell? ⟨b3,H+k,none⟩=some (.string ⟨g[k].toArray⟩):=(aa k (by omega)).1.trans (by simp[I,encStr])
    have S:=HF.out.gne g[k] (List.getElem_mem I)
    have ac:g[k].length≤2147483648:=Nat.le_trans (Yv (List.getElem_mem I)) HF.out.sum
    have d:=fun W=>zdr g[k] W (by omega) (zcn _ _)
    have V:k=0→zD (g.take (k+1))=if yt g[k]=true then [] else vg g[k]:=fun L=>by
     subst L
     cases g with
     |nil=>simp at I
     |cons y r=>exact XK y r
    have a3:0 < k→zD (g.take (k+1))=zD (g.take k)++vg g[k]:=fun L=>XH g k I L
    clear aa
    generalize g[k]=t at cs S ac d V a3
    rcases t with _|⟨c,r⟩
    ·exact absurd rfl S
    have ay:∀h:0 < (⟨(c :: r).toArray⟩:ByteArray).size,(⟨(c :: r).toArray⟩:ByteArray)[0]'h=c:=fun _=>rfl
    have J:yt (c :: r)=(decide (c=32)||decide (c=9)):=by simp[yt]
    by_cases E:k=0∧yt (c :: r)=true
    ·obtain⟨rfl,q⟩:=E
     simp only[Nat.add_zero] at cs
     have X:zD (g.take (0+1))=zD (g.take 0):=by rw[V rfl,if_pos q];rfl
     have U:=zdG (HU.out.same X)
     have hc:c=32∨c=9:=by
      rw[J] at q
      simpa using q
     clear d J q V a3 S ac X
     rcases hc with rfl|rfl
     ·go_wp2_with fail
      refine⟨?_,by simp[intOf];omega⟩
      first|exact⟨1,by omega,by go_num,U,j⟩|((repeat apply Exists.intro);exact⟨⟨1,by omega,by go_num,U,j⟩,rfl⟩)
     ·go_wp2_with fail
      refine⟨?_,by simp[intOf];omega⟩
      first|exact⟨1,by omega,by go_num,U,j⟩|((repeat apply Exists.intro);exact⟨⟨1,by omega,by go_num,U,j⟩,rfl⟩)
    ·have Y:zD (g.take (k+1))=zD (g.take k)++vg (c :: r):=by
      rcases Nat.eq_zero_or_pos k with L|L
      ·have q:¬yt (c :: r)=true:=fun q=>E ⟨L,q⟩
       rw[V L,if_neg q,L]
       rfl
      ·exact a3 L
     have ad:¬k=0∨(¬c=32∧¬c=9):=by
      rcases Nat.eq_zero_or_pos k with L|L
      ·refine .inr ?_
       have q:¬yt (c :: r)=true:=fun q=>E ⟨L,q⟩
       rw[J] at q
       simpa using q
      ·exact .inl (by omega)
     unfold vg at Y
     generalize YP (c :: r)=of at d Y
     obtain⟨⟨fa,fb⟩,ok⟩:=of
     simp only at d Y
     obtain⟨ar,a8,ab⟩:=HU.out.fs
     obtain⟨m,hm⟩:∃m,(zD (g.take k)).length=m:=⟨_,rfl⟩
     rw[hm] at a8
     have a4:=zdG a8
     have am:=zdG ab
     obtain⟨A0,Q,rfl,_,_⟩:=a8.form
     have bs:m≤k:=by
      rw[←hm]
      exact Ui g k
     have HM:=zdG hm
     have a5:=zdG Y
     clear a8 ab V a3 J E Y S ac
     by_cases L:k=0
     ·subst L
      simp only[Nat.add_zero] at cs
      have hc:¬c=32∧¬c=9:=by
       rcases ad with h|h
       ·exact absurd rfl h
       ·exact h
      have a9:¬(c.toNat:Int)=32:=fun h=>hc.1 (by
       have P:c.toNat=32:=by omega
       exact UInt8.toNat_inj.1 P)
      have h9:¬(c.toNat:Int)=9:=fun h=>hc.2 (by
       have P:c.toNat=9:=by omega
       exact UInt8.toNat_inj.1 P)
      have az:((c.toNat:Int)==32)=false:=by simpa using a9
      have bg:((c.toNat:Int)==9)=false:=by simpa using h9
      clear a9 h9 hc ad
      cases ok with
      |false=>
       have Z:zD (g.take (0+1))=zD (g.take 0):=by rw[a5.out];simp
       have ae:=zdG Z
       clear Z
       go_wp2_with (first
        |(go_at_call 204;refine(d _).mono ?_;rintro e w2 ⟨rfl,p⟩;have o:=zdG p;clear d p)
        |fail)
       have z:Hid (Vw w (w2.alloc (.cells #[.string ⟨fa.toArray⟩,.string ⟨fb.toArray⟩] 253)) N g T D (.slice (some ⟨b3,H,none⟩) n G) hg (0+1) (.slice A0 m Q)):=zdG ((HU.out.later j.out (za o.out (below_alloc1 _ _))).same ae.out)
       have C:Hid (N≤(w2.alloc (.cells #[.string ⟨fa.toArray⟩,.string ⟨fb.toArray⟩] 253)).heap.size):=zdG (by have h1:=o.out.size;have P:=j.out;rw[World.size_alloc];omega)
       refine⟨?_,by simp[intOf];omega⟩
       first|exact⟨0+1,by omega,by go_num,z,C⟩|((repeat apply Exists.intro);exact⟨⟨0+1,by omega,by go_num,z,C⟩,rfl⟩)
      |true=>
       go_wp2_with (first
        |(go_at_call 204;refine(d _).mono ?_;rintro e w2 ⟨rfl,p⟩;have o:=zdG p;have a0:Hid (Sl w2 253 2 (.slice A0 m Q) ar m (zk XT (zD (g.take 0)))):=zdG (a4.out.keep (fun b q=>p.block b (a4.out.lt b q)));clear d p)
        |(at_builtin;refine yI rfl _ _ 225 rfl Tryz.underlying225 hj au av aw rfl (by decide) (a0.out.alloc _) rfl (w2.heap.size+1) (by simp) 1 1 rfl rfl ?_ ?_ ?_ ?_)
        |fail)
       any_goals (first|(simp[Value.oneCell'];done)|(unfold maxLen;omega)|omega|rfl)
       ·intro v2 P w5 M O a1
        obtain⟨A5,a2,rfl,_,_⟩:=M.form
        have z:Hid (Vw w w5 N g T D (.slice (some ⟨b3,H,none⟩) n G) hg (0+1) (.slice A5 (m+1) a2)):=zdG ((HU.out.later j.out (za o.out (below_alloc1 _ _))).more (x:=(fa,fb)) (by have h1:=o.out.size;have P:=j.out;rw[World.size_alloc];omega) (by rw[a5.out];simp) (by rw[HM.out];exact a0.out.alloc _) am.out (by rw[HM.out];exact M) O (by rw[World.size_alloc];exact a1))
        have C:Hid (N≤w5.heap.size):=zdG (by have h1:=o.out.size;have P:=j.out;have h3:=O.size;rw[World.size_alloc] at h3;omega)
        clear M O a1
        go_wp2_with fail
        refine⟨?_,by simp[intOf];omega⟩
        first|exact⟨0+1,by omega,by go_num,z,C⟩|((repeat apply Exists.intro);exact⟨⟨0+1,by omega,by go_num,z,C⟩,rfl⟩)
     ·have bt:((k:Int)==0)=false:=by simpa using L
      clear ad
      cases ok with
      |false=>
       have Z:zD (g.take (k+1))=zD (g.take k):=by rw[a5.out];simp
       have ae:=zdG Z
       clear Z
       go_wp2_with (first
        |(go_at_call 204;refine(d _).mono ?_;rintro e w2 ⟨rfl,p⟩;have o:=zdG p;clear d p)
        |fail)
       have z:Hid (Vw w (w2.alloc (.cells #[.string ⟨fa.toArray⟩,.string ⟨fb.toArray⟩] 253)) N g T D (.slice (some ⟨b3,H,none⟩) n G) hg (k+1) (.slice A0 m Q)):=zdG ((HU.out.later j.out (za o.out (below_alloc1 _ _))).same ae.out)
       have C:Hid (N≤(w2.alloc (.cells #[.string ⟨fa.toArray⟩,.string ⟨fb.toArray⟩] 253)).heap.size):=zdG (by have h1:=o.out.size;have P:=j.out;rw[World.size_alloc];omega)
       refine⟨?_,by simp[intOf];omega⟩
       first|exact⟨k+1,by omega,by go_num,z,C⟩|((repeat apply Exists.intro);exact⟨⟨k+1,by omega,by go_num,z,C⟩,rfl⟩)
      |true=>
       go_wp2_with (first
        |(go_at_call 204;refine(d _).mono ?_;rintro e w2 ⟨rfl,p⟩;have o:=zdG p;have a0:Hid (Sl w2 253 2 (.slice A0 m Q) ar m (zk XT (zD (g.take k)))):=zdG (a4.out.keep (fun b q=>p.block b (a4.out.lt b q)));clear d p)
        |(at_builtin;refine yI rfl _ _ 225 rfl Tryz.underlying225 hj au av aw rfl (by decide) (a0.out.alloc _) rfl (w2.heap.size+1) (by simp) 1 1 rfl rfl ?_ ?_ ?_ ?_)
        |fail)
       any_goals (first|(simp[Value.oneCell'];done)|(unfold maxLen;omega)|omega|rfl)
       ·intro v2 P w5 M O a1
        obtain⟨A5,a2,rfl,_,_⟩:=M.form
        have z:Hid (Vw w w5 N g T D (.slice (some ⟨b3,H,none⟩) n G) hg (k+1) (.slice A5 (m+1) a2)):=zdG ((HU.out.later j.out (za o.out (below_alloc1 _ _))).more (x:=(fa,fb)) (by have h1:=o.out.size;have P:=j.out;rw[World.size_alloc];omega) (by rw[a5.out];simp) (by rw[HM.out];exact a0.out.alloc _) am.out (by rw[HM.out];exact M) O (by rw[World.size_alloc];exact a1))
        have C:Hid (N≤w5.heap.size):=zdG (by have h1:=o.out.size;have P:=j.out;have h3:=O.size;rw[World.size_alloc] at h3;omega)
        clear M O a1
        go_wp2_with fail
        refine⟨?_,by simp[intOf];omega⟩
        first|exact⟨k+1,by omega,by go_num,z,C⟩|((repeat apply Exists.intro);exact⟨⟨k+1,by omega,by go_num,z,C⟩,rfl⟩)
   ·have b5:k=n:=by omega
    subst b5
    have af:Blk wr N 3 #[.int .i64 T]:=HU.out.body
    have b0:wr.cell? ⟨N,0,none⟩=some (.int .i64 T):=af.cell 0
    have fz:wr.frozen? ⟨N,0,none⟩=false:=af.frozen 0
    clear af
    go_wp2_with fail
    go_still_tail 3,(by kernel_rfl)
    change wpList _ _ _ _ _ wr.drew
    go_wp2_with fail
    have b6:N≠D:=by omega
    obtain⟨⟨hh,q1,q2⟩,q3,q4,q5⟩:=HU.out.done b6 j.out (by omega)
    have q6:((wr.setCell ⟨N,0,none⟩ (.int .i64 T)).drew.putObj D (.deferred none)).cell? ⟨N,0,none⟩=some (.int .i64 T):=q4
    refine⟨by simp,.inl ⟨_,_,rfl,run_takeDeferred q5,?_⟩⟩
    have b7:(xw s).1=zD (g.take k):=by rw[HF.out.fields,←HN.out,List.take_length]
    refine⟨.tuple #[u6,.int .i64 T],?_,u6,hh,?_,?_,?_,?_⟩
    ·simp[results,Tryz.results171,go_sem,q6]
    ·rw[HF.out.body]
    ·rw[b7]
     exact q1
    ·rw[hN]
     exact q2
    ·rw[hN]
     exact q3
 case stop=>
  rintro D c u W hD hS ⟨rfl,hX⟩ hK
  obtain⟨g,T,hF⟩:=hX.gf hs hS
  clear hX hS
  refine wpIn_wide.2 ?_
  obtain⟨gv,hg,ap,ah,aq⟩:=hF.st.cell
  obtain⟨A,G,rfl,_,_⟩:=ah.form
  obtain⟨n,hn⟩:∃n,g.length=n:=⟨_,rfl⟩
  have bh:D < W.heap.size:=(Array.getElem?_eq_some_iff.1 hK).1
  have c1:W.cell? ⟨N+1,0,none⟩=some (.slice A n G):=by rw[←hn];exact ap.cell 0
  have HR:Hid (Vw w W N g T D (.slice A n G) hg 0 (.slice none 0 0)):=zdG ⟨⟨none,Sl.nil _ _ _,fun b q=>by cases q⟩,by rw[←hn];exact ah,fun b q=>by have:=aq b q;omega,hF.st.body,hF.st.below,hK⟩
  have HF:=zdG hF
  have HN:=zdG hn
  have br:n≤2147483648:=by rw[←hn];exact hF.glen
  have b4:N≤W.heap.size:=by have:=hF.size;omega
  clear ap ah aq hF hn hK a' aj
  go_wp2_with fail
  go_loopw [6,68] (fun f i wr=>∃k:Nat,k≤n∧i=.int .i64 k∧Hid (Vw w wr N g T D (.slice A n G) hg k f)∧Hid (N≤wr.heap.size)) (fun _ i _=>n - (intOf i).toNat)
  case atStart=>exact⟨0,Nat.zero_le _,rfl,HR,zdG b4⟩
  case round=>
   obtain⟨k,hk,rfl,HU,j⟩:=hrel
   by_cases b8:k < n
   ·have I:k < g.length:=by rw[HN.out];exact b8
    obtain⟨b3,H,bb,_,a7,_,_,bx,aa⟩:=HU.out.gs.at_ (by omega)
    injection a7 with hv1 hv2 a7
    subst hv1 a7
    clear hv2
    have cs:wr.cell? ⟨b3,H+k,none⟩=some (.string ⟨g[k].toArray⟩):=(aa k (by omega)).1.trans (by simp[I,encStr])
    have S:=HF.out.gne g[k] (List.getElem_mem I)
    have ac:g[k].length≤2147483648:=Nat.le_trans (Yv (List.getElem_mem I)) HF.out.sum
    have d:=fun W=>zdr g[k] W (by omega) (zcn _ _)
    have V:k=0→zD (g.take (k+1))=if yt g[k]=true then [] else vg g[k]:=fun L=>by
     subst L
     cases g with
     |nil=>simp at I
     |cons y r=>exact XK y r
    have a3:0 < k→zD (g.take (k+1))=zD (g.take k)++vg g[k]:=fun L=>XH g k I L
    clear aa
    generalize g[k]=t at cs S ac d V a3
    rcases t with _|⟨c,r⟩
    ·exact absurd rfl S
    have ay:∀h:0 < (⟨(c :: r).toArray⟩:ByteArray).size,(⟨(c :: r).toArray⟩:ByteArray)[0]'h=c:=fun _=>rfl
    have J:yt (c :: r)=(decide (c=32)||decide (c=9)):=by simp[yt]
    by_cases E:k=0∧yt (c :: r)=true
    ·obtain⟨rfl,q⟩:=E
     simp only[Nat.add_zero] at cs
     have X:zD (g.take (0+1))=zD (g.take 0):=by rw[V rfl,if_pos q];rfl
     have U:=zdG (HU.out.same X)
     have hc:c=32∨c=9:=by
      rw[J] at q
      simpa using q
     clear d J q V a3 S ac X
     rcases hc with rfl|rfl
     ·go_wp2_with fail
      refine⟨?_,by simp[intOf];omega⟩
      first|exact⟨1,by omega,by go_num,U,j⟩|((repeat apply Exists.intro);exact⟨⟨1,by omega,by go_num,U,j⟩,rfl⟩)
     ·go_wp2_with fail
      refine⟨?_,by simp[intOf];omega⟩
      first|exact⟨1,by omega,by go_num,U,j⟩|((repeat apply Exists.intro);exact⟨⟨1,by omega,by go_num,U,j⟩,rfl⟩)
    ·have Y:zD (g.take (k+1))=zD (g.take k)++vg (c :: r):=by
      rcases Nat.eq_zero_or_pos k with L|L
      ·have q:¬yt (c :: r)=true:=fun q=>E ⟨L,q⟩
       rw[V L,if_neg q,L]
       rfl
      ·exact a3 L
     have ad:¬k=0∨(¬c=32∧¬c=9):=by
      rcases Nat.eq_zero_or_pos k with L|L
      ·refine .inr ?_
       have q:¬yt (c :: r)=true:=fun q=>E ⟨L,q⟩
       rw[J] at q
       simpa using q
      ·exact .inl (by omega)
     unfold vg at Y
     generalize YP (c :: r)=of at d Y
     obtain⟨⟨fa,fb⟩,ok⟩:=of
     simp only at d Y
     obtain⟨ar,a8,ab⟩:=HU.out.fs
     obtain⟨m,hm⟩:∃m,(zD (g.take k)).length=m:=⟨_,rfl⟩
     rw[hm] at a8
     have a4:=zdG a8
     have am:=zdG ab
     obtain⟨A0,Q,rfl,_,_⟩:=a8.form
     have bs:m≤k:=by
      rw[←hm]
      exact Ui g k
     have HM:=zdG hm
     have a5:=zdG Y
     clear a8 ab V a3 J E Y S ac
     by_cases L:k=0
     ·subst L
      simp only[Nat.add_zero] at cs
      have hc:¬c=32∧¬c=9:=by
       rcases ad with h|h
       ·exact absurd rfl h
       ·exact h
      have a9:¬(c.toNat:Int)=32:=fun h=>hc.1 (by
       have P:c.toNat=32:=by omega
       exact UInt8.toNat_inj.1 P)
      have h9:¬(c.toNat:Int)=9:=fun h=>hc.2 (by
       have P:c.toNat=9:=by omega
       exact UInt8.toNat_inj.1 P)
      have az:((c.toNat:Int)==32)=false:=by simpa using a9
      have bg:((c.toNat:Int)==9)=false:=by simpa using h9
      clear a9 h9 hc ad
      cases ok with
      |false=>
       have Z:zD (g.take (0+1))=zD (g.take 0):=by rw[a5.out];simp
       have ae:=zdG Z
       clear Z
       go_wp2_with (first
        |(go_at_call 204;refine(d _).mono ?_;rintro e w2 ⟨rfl,p⟩;have o:=zdG p;clear d p)
        |fail)
       have z:Hid (Vw w (w2.alloc (.cells #[.string ⟨fa.toArray⟩,.string ⟨fb.toArray⟩] 253)) N g T D (.slice (some ⟨b3,H,none⟩) n G) hg (0+1) (.slice A0 m Q)):=zdG ((HU.out.later j.out (za o.out (below_alloc1 _ _))).same ae.out)
       have C:Hid (N≤(w2.alloc (.cells #[.string ⟨fa.toArray⟩,.string ⟨fb.toArray⟩] 253)).heap.size):=zdG (by have h1:=o.out.size;have P:=j.out;rw[World.size_alloc];omega)
       refine⟨?_,by simp[intOf];omega⟩
       first|exact⟨0+1,by omega,by go_num,z,C⟩|((repeat apply Exists.intro);exact⟨⟨0+1,by omega,by go_num,z,C⟩,rfl⟩)
      |true=>
       go_wp2_with (first
        |(go_at_call 204;refine(d _).mono ?_;rintro e w2 ⟨rfl,p⟩;have o:=zdG p;have a0:Hid (Sl w2 253 2 (.slice A0 m Q) ar m (zk XT (zD (g.take 0)))):=zdG (a4.out.keep (fun b q=>p.block b (a4.out.lt b q)));clear d p)
        |(at_builtin;refine yI rfl _ _ 225 rfl Tryz.underlying225 hj au av aw rfl (by decide) (a0.out.alloc _) rfl (w2.heap.size+1) (by simp) 1 1 rfl rfl ?_ ?_ ?_ ?_)
        |fail)
       any_goals (first|(simp[Value.oneCell'];done)|(unfold maxLen;omega)|omega|rfl)
       ·intro v2 P w5 M O a1
        obtain⟨A5,a2,rfl,_,_⟩:=M.form
        have z:Hid (Vw w w5 N g T D (.slice (some ⟨b3,H,none⟩) n G) hg (0+1) (.slice A5 (m+1) a2)):=zdG ((HU.out.later j.out (za o.out (below_alloc1 _ _))).more (x:=(fa,fb)) (by have h1:=o.out.size;have P:=j.out;rw[World.size_alloc];omega) (by rw[a5.out];simp) (by rw[HM.out];exact a0.out.alloc _) am.out (by rw[HM.out];exact M) O (by rw[World.size_alloc];exact a1))
        have C:Hid (N≤w5.heap.size):=zdG (by have h1:=o.out.size;have P:=j.out;have h3:=O.size;rw[World.size_alloc] at h3;omega)
        clear M O a1
        go_wp2_with fail
        refine⟨?_,by simp[intOf];omega⟩
        first|exact⟨0+1,by omega,by go_num,z,C⟩|((repeat apply Exists.intro);exact⟨⟨0+1,by omega,by go_num,z,C⟩,rfl⟩)
     ·have bt:((k:Int)==0)=false:=by simpa using L
      clear ad
      cases ok with
      |false=>
       have Z:zD (g.take (k+1))=zD (g.take k):=by rw[a5.out];simp
       have ae:=zdG Z
       clear Z
       go_wp2_with (first
        |(go_at_call 204;refine(d _).mono ?_;rintro e w2 ⟨rfl,p⟩;have o:=zdG p;clear d p)
        |fail)
       have z:Hid (Vw w (w2.alloc (.cells #[.string ⟨fa.toArray⟩,.string ⟨fb.toArray⟩] 253)) N g T D (.slice (some ⟨b3,H,none⟩) n G) hg (k+1) (.slice A0 m Q)):=zdG ((HU.out.later j.out (za o.out (below_alloc1 _ _))).same ae.out)
       have C:Hid (N≤(w2.alloc (.cells #[.string ⟨fa.toArray⟩,.string ⟨fb.toArray⟩] 253)).heap.size):=zdG (by have h1:=o.out.size;have P:=j.out;rw[World.size_alloc];omega)
       refine⟨?_,by simp[intOf];omega⟩
       first|exact⟨k+1,by omega,by go_num,z,C⟩|((repeat apply Exists.intro);exact⟨⟨k+1,by omega,by go_num,z,C⟩,rfl⟩)
      |true=>
       go_wp2_with (first
        |(go_at_call 204;refine(d _).mono ?_;rintro e w2 ⟨rfl,p⟩;have o:=zdG p;have a0:Hid (Sl w2 253 2 (.slice A0 m Q) ar m (zk XT (zD (g.take k)))):=zdG (a4.out.keep (fun b q=>p.block b (a4.out.lt b q)));clear d p)
        |(at_builtin;refine yI rfl _ _ 225 rfl Tryz.underlying225 hj au av aw rfl (by decide) (a0.out.alloc _) rfl (w2.heap.size+1) (by simp) 1 1 rfl rfl ?_ ?_ ?_ ?_)
        |fail)
       any_goals (first|(simp[Value.oneCell'];done)|(unfold maxLen;omega)|omega|rfl)
       ·intro v2 P w5 M O a1
        obtain⟨A5,a2,rfl,_,_⟩:=M.form
        have z:Hid (Vw w w5 N g T D (.slice (some ⟨b3,H,none⟩) n G) hg (k+1) (.slice A5 (m+1) a2)):=zdG ((HU.out.later j.out (za o.out (below_alloc1 _ _))).more (x:=(fa,fb)) (by have h1:=o.out.size;have P:=j.out;rw[World.size_alloc];omega) (by rw[a5.out];simp) (by rw[HM.out];exact a0.out.alloc _) am.out (by rw[HM.out];exact M) O (by rw[World.size_alloc];exact a1))
        have C:Hid (N≤w5.heap.size):=zdG (by have h1:=o.out.size;have P:=j.out;have h3:=O.size;rw[World.size_alloc] at h3;omega)
        clear M O a1
        go_wp2_with fail
        refine⟨?_,by simp[intOf];omega⟩
        first|exact⟨k+1,by omega,by go_num,z,C⟩|((repeat apply Exists.intro);exact⟨⟨k+1,by omega,by go_num,z,C⟩,rfl⟩)
   ·have b5:k=n:=by omega
    subst b5
    have af:Blk wr N 3 #[.int .i64 T]:=HU.out.body
    have b0:wr.cell? ⟨N,0,none⟩=some (.int .i64 T):=af.cell 0
    have fz:wr.frozen? ⟨N,0,none⟩=false:=af.frozen 0
    clear af
    go_wp2_with fail
    go_still_tail 3,(by kernel_rfl)
    change wpList _ _ _ _ _ wr.drew
    go_wp2_with fail
    have b6:N≠D:=by omega
    obtain⟨⟨hh,q1,q2⟩,q3,q4,q5⟩:=HU.out.done b6 j.out (by omega)
    have q6:((wr.setCell ⟨N,0,none⟩ (.int .i64 T)).drew.putObj D (.deferred none)).cell? ⟨N,0,none⟩=some (.int .i64 T):=q4
    refine⟨by simp,.inl ⟨_,_,rfl,run_takeDeferred q5,?_⟩⟩
    have b7:(xw s).1=zD (g.take k):=by rw[HF.out.fields,←HN.out,List.take_length]
    refine⟨.tuple #[u6,.int .i64 T],?_,u6,hh,?_,?_,?_,?_⟩
    ·simp[results,Tryz.results171,go_sem,q6]
    ·rw[HF.out.body]
    ·rw[b7]
     exact q1
    ·rw[hN]
     exact q2
    ·rw[hN]
     exact q3
end Go.Proofs.YtfhlhdmhgheonaaGreatDoor
namespace Go.Proofs.YtfhlhdmhgheonaaGreatDoor
open Go.Shelf Go.RowKit
attribute [local go_sem ↓] Go.wp_at_zero Go.wp_at_succ
theorem Ve:∀(L:List (List UInt8×Nat)) (g:List (List UInt8)) (b:Nat),YH (xh L g b).1≤YH g+Xu L
 |[],g,b=>by simp[xh,Xu]
 |(t,p) :: r,g,b=>by
  have h5:Xu ((t,p) :: r)=t.length+Xu r:=by simp[Xu]
  rw[xh]
  split
  ·show YH g≤_
   omega
  ·have a:=Ve r (xL g t) b
   rw[uU] at a
   omega
theorem VP (s:List UInt8):∀f∈(xw s).1,f.1.length≤s.length:=by
 intro f b
 have d:=Ve (yH s.length s 0) [] s.length
 have j:=ZC s.length s 0
 have k:YH ([]:List (List UInt8))=0:=by simp[YH]
 have b:f∈zD (xh (yH s.length s 0) [] s.length).1:=b
 generalize (xh (yH s.length s 0) [] s.length).1=g at b d
 have e:∀l:List (List UInt8),f∈zS l→∃t∈l,(YP t).1=f:=by
  intro l i
  obtain⟨t,a,c⟩:=List.mem_filterMap.1 i
  refine⟨t,a,?_⟩
  split at c
  ·exact Option.some.inj c
  ·cases c
 have h:∃t∈g,(YP t).1=f:=by
  cases g with
  |nil=>cases b
  |cons x r=>
   obtain⟨t,a,c⟩:=e (if yt x=true then r else x :: r) b
   refine⟨t,?_,c⟩
   split at a
   ·exact List.mem_cons_of_mem _ a
   ·exact a
 obtain⟨t,a,rfl⟩:=h
 have m:=Yv a
 have n:=(zcn t [58]).1
 show (Lib.cut t [58]).1.length≤_
 omega
theorem zba (t name:List UInt8)(ht:t.length≤2147483648)(hn:name.length≤4294967296)(w:World) :
  Calls Tryz.prog 170 #[.string ⟨t.toArray⟩,.string ⟨name.toArray⟩] w fun e w'=>e=.returned (.string ⟨(zO t name).toArray⟩)∧Below w.heap.size w w':=by
 have b:=zde t ht w
 have c:=VP t
 unfold zO
 generalize (xw t).2=bp at b
 generalize (xw t).1=l at b c ⊢
 have a:=fun W v (hr:RdS W [] 2 v l.length (zk XT l))=>zcz W v [] l hr name hn (fun f hf=>by have:=c f hf;omega)
 generalize vI l name=ans at a
 obtain⟨n,o⟩:=ans
 have i:=zdG a
 clear c a
 go_enter Tryz.func170,Tryz.ntmps170
 go_wp2_with (first
  |(go_at_call 171;refine b.mono ?_;rintro e m ⟨v,p,rfl,d,_,g⟩;have a:=i.out m v (d.reads [] (by simp));have j:=zdG g;clear b d g)
  |(go_at_call 172;refine a.mono ?_;rintro e q ⟨rfl,h⟩;have k:=zdG (za j.out h);clear a h)
  |fail)
 go_ret
 exact⟨rfl,k.out⟩
def irt:List UInt8:=[105,110,45,114,101,112,108,121,45,116,111]
def mid:List UInt8:=[109,101,115,115,97,103,101,45,105,100]
theorem Jc {α:Type}(p:α→Bool):∀(l:List α) (k:Nat) (hk:k < l.length),p l[k]=true→(∀j (hj:j < l.length),j < k→p l[j]=false)→l.find? p=some l[k]
 |x :: r,0,_,h,_=>by
  have h:p x=true:=h
  simp[h]
 |x :: r,k+1,hk,h,hj=>by
  have h0:p x=false:=hj 0 (by simp) (by omega)
  rw[List.find?_cons_of_neg (by simp[h0])]
  exact Jc p r k (by simpa using hk) (by simpa using h) (fun j hj1 hj2=>hj (j+1) (by simpa using hj1) (by omega))
theorem J2 {α:Type}(p:α→Bool)(l:List α)(h:∀j (hj:j < l.length),p l[j]=false):l.find? p=none:=by
 rw[List.find?_eq_none]
 intro x a
 obtain⟨j,hj,rfl⟩:=List.getElem_of_mem a
 simp[h j hj]
theorem zbB (w:World)(g:Nat)(q:zl)(x:Acc)(h:zh w g q x)(hn:x.mails.length≤1099511627776)(hm:∀m∈x.mails,m.text.length≤2147483648)(t:List UInt8)(ht:t.length≤2147483648) :
  Calls Tryz.prog 96 #[.pointer (some ⟨g,0,none⟩),.string ⟨t.toArray⟩] w fun e w'=>e=.returned (.int .i64 (vT zO x t))∧Below w.heap.size w w':=by
 have P:=fun W=>zba t irt ht (by decide) W
 obtain⟨G,B⟩:∃G,vT zO x t=G:=⟨_,rfl⟩
 rw[B]
 have s:G=if zO t irt=[] then 0 else match x.mails.find? (fun m=>decide (zO m.text mid=zO t irt)) with
  |some m=>m.thread
  |none=>0:=by
  rw[←B]
  rfl
 obtain⟨I,L⟩:∃I,zO t irt=I:=⟨_,rfl⟩
 rw[L] at s
 have P:∀W,Calls Tryz.prog 170 #[.string ⟨t.toArray⟩,.string ⟨#[105,110,45,114,101,112,108,121,45,116,111]⟩] W fun e w'=>e=.returned (.string ⟨I.toArray⟩)∧Below W.heap.size W w':=fun W=>by
  have:=P W
  rw[L] at this
  exact this
 have J:=h.zU
 have a0:=h.blk.lt
 have Q:=zdG s
 have H:=zdG h
 have HM:=zdG hm
 obtain⟨A,aa,M,_,_⟩:=h.mails.form
 rw[M] at J
 obtain⟨n,N⟩:∃n,x.mails.length=n:=⟨_,rfl⟩
 rw[N] at J hn
 have HN:=zdG N
 have a1:=zdG M
 clear B s L h hm N M
 cases I with
 |nil=>
  rw[if_pos rfl] at Q
  go_enter Tryz.func96,Tryz.ntmps96
  go_wp2_with (first
   |(go_at_call 170;refine(P _).mono ?_;rintro e w1 ⟨rfl,C⟩;clear P)
   |fail)
  go_ret
  exact⟨by rw[Q.out];rfl,C⟩
 |cons c r=>
  rw[if_neg (by simp)] at Q
  go_enter Tryz.func96,Tryz.ntmps96
  go_wp2_with (first
   |(go_at_call 170;refine(P _).mono ?_;rintro e w1 ⟨rfl,C⟩;have a9:=(C.cell (p:=⟨g,11,none⟩) a0).trans J;have a2:=zdG C;clear P C)
   |fail)
  go_loopw [19] (fun i wr=>∃k:Nat,k≤n∧i=.int .i64 k∧Hid (Below w.heap.size w wr)∧Hid (∀j (hj:j < x.mails.length),j < k→decide (zO x.mails[j].text mid=c :: r)=false)) (fun i _=>n - (intOf i).toNat)
  case atStart=>exact⟨0,Nat.zero_le _,rfl,a2,zdG (fun j hj h=>by omega)⟩
  case round=>
   obtain⟨k,hk,rfl,D,HP⟩:=hrel
   by_cases a7:k < n
   ·have y:k < x.mails.length:=by rw[HN.out];exact a7
    have K:k < q.ms.length:=by rw[H.out.Za];exact y
    obtain⟨b,a,a8,T,_,_,_,o,l⟩:=H.out.xu k y K
    rw[a1.out,HN.out] at T
    injection T with hv3 hv4 hv5
    subst hv3 hv5
    clear hv4
    have V:=H.out.msAt k y K
    have z:=HM.out _ (List.getElem_mem y)
    have f:=Jc (fun m:zX=>decide (zO m.text mid=c :: r)) x.mails k y
    have d:decide (zO x.mails[k].text mid=c :: r)=false→∀j (hj:j < x.mails.length),j < k+1→decide (zO x.mails[j].text mid=c :: r)=false:=fun h0 j hj hjk=>by
     by_cases S:j=k
     ·subst S
      exact h0
     ·exact HP.out j hj (by omega)
    rw[←V] at z f d
    have X:=(D.out.cell (p:=⟨b,a+k * 8,none⟩) o).trans (l 0 (by omega)).1
    have Y:=(D.out.cell (p:=⟨b,a+k * 8+1,none⟩) o).trans (l 1 (by omega)).1
    have Z:=(D.out.cell (p:=⟨b,a+k * 8+2,none⟩) o).trans (l 2 (by omega)).1
    have l3:=(D.out.cell (p:=⟨b,a+k * 8+3,none⟩) o).trans (l 3 (by omega)).1
    have l4:=(D.out.cell (p:=⟨b,a+k * 8+4,none⟩) o).trans (l 4 (by omega)).1
    have l5:=(D.out.cell (p:=⟨b,a+k * 8+5,none⟩) o).trans (l 5 (by omega)).1
    have l6:=(D.out.cell (p:=⟨b,a+k * 8+6,none⟩) o).trans (l 6 (by omega)).1
    have l7:=(D.out.cell (p:=⟨b,a+k * 8+7,none⟩) o).trans (l 7 (by omega)).1
    have E:=H.out.parts _ (List.getElem_mem K)
    obtain⟨m,O⟩:∃m,m=q.ms[k]:=⟨_,rfl⟩
    rw[←O] at X Y Z l3 l4 l5 l6 l7 z f d E V
    obtain⟨⟨id,th,U,ta,ks,me,mo,bo⟩,kv,mv⟩:=m
    obtain⟨A1,p1,e1,_,_⟩:=E.keys.form
    obtain⟨A2,p2,e2,_,_⟩:=E.mem.form
    have a3:kv=.slice A1 ks.length p1:=e1
    have a4:mv=.slice A2 me.length p2:=e2
    clear E e1 e2
    subst a3 a4
    have d0:wr.cell? ⟨b,a+k * 8,none⟩=some (.int .i64 id):=X
    have d1:wr.cell? ⟨b,a+k * 8+1,none⟩=some (.int .i64 th):=Y
    have d2:wr.cell? ⟨b,a+k * 8+2,none⟩=some (.string ⟨U.toArray⟩):=Z
    have d3:wr.cell? ⟨b,a+k * 8+3,none⟩=some (.int .i64 ta):=l3
    have d4:wr.cell? ⟨b,a+k * 8+4,none⟩=some (.slice A1 ks.length p1):=l4
    have d5:wr.cell? ⟨b,a+k * 8+5,none⟩=some (.slice A2 me.length p2):=l5
    have d6:wr.cell? ⟨b,a+k * 8+6,none⟩=some (.int .i64 mo):=l6
    have d7:wr.cell? ⟨b,a+k * 8+7,none⟩=some (.int .i64 bo):=l7
    have u:=fun W=>zba U mid z (by decide) W
    have u:∀W,Calls Tryz.prog 170 #[.string ⟨U.toArray⟩,.string ⟨#[109,101,115,115,97,103,101,45,105,100]⟩] W fun e w'=>e=.returned (.string ⟨(zO U mid).toArray⟩)∧Below W.heap.size W w':=u
    simp only at f d
    generalize zO U mid=hh at u f d
    by_cases he:hh=c :: r
    ·have hf:=f (by simp[he]) HP.out
     have a5:G=th:=by
      rw[Q.out,hf]
     clear l f d X Y Z l3 l4 l5 l6 l7 V z hf O
     subst he
     go_wp2_with (first
      |(go_at_call 170;refine(u _).mono ?_;rintro e w3 ⟨rfl,v⟩;have z1:w3.cell? ⟨wr.heap.size,1,none⟩=some (.int .i64 th):=((Blk.new wr _ _).below v (by simp)).cell 1;have F:=zdG (za D.out (za (below_alloc1 wr _) v));clear u v)
      |fail)
     go_ret
     exact⟨by rw[a5];rfl,F.out⟩
    ·have hq:(hh==c :: r)=false:=by simpa using he
     have R:=zdG (d (by simpa using he))
     clear l f d X Y Z l3 l4 l5 l6 l7 V z O
     go_wp2_with (first
      |(go_at_call 170;refine(u _).mono ?_;rintro e w3 ⟨rfl,v⟩;have z1:w3.cell? ⟨wr.heap.size,1,none⟩=some (.int .i64 th):=((Blk.new wr _ _).below v (by simp)).cell 1;have F:=zdG (za D.out (za (below_alloc1 wr _) v));clear u v)
      |fail)
     refine⟨?_,by simp[intOf];omega⟩
     first|exact⟨k+1,by omega,by go_num,F,R⟩|((repeat apply Exists.intro);exact⟨⟨k+1,by omega,by go_num,F,R⟩,rfl⟩)
   ·have a6:k=n:=by omega
    subst a6
    have hf:=J2 (fun m:zX=>decide (zO m.text mid=c :: r)) x.mails (fun j hj=>HP.out j hj (by rw[←HN.out];exact hj))
    rw[hf] at Q
    go_wp2_with fail
    go_ret
    exact⟨by rw[Q.out];rfl,D.out⟩
end Go.Proofs.YtfhlhdmhgheonaaGreatDoor
namespace Go.Proofs.YtfhlhdmhgheonaaGreatDoor
open Go.Shelf Go.RowKit
theorem zF {P:Program}{ops:Array Oper}{o:Oper}{a:Act}{w:World}{K:Act→World→Prop}{Q:Exit→Act→World→Prop}{E:Prop}(hgd:o.guard=none){f:FuncId}{xs:Array Operand}{ts:Array TypeId}(ho:o.op=.call {callee:=.value (.func f),args:=xs,argTypes:=ts})(eg:∀args W,(callFunc f args).run P W=.ok (.enter f args) W){vals:Array Value}(hv:xs.map a.eval=vals){R:Ending→World→Prop}(hc:Calls P f vals w R)(hk:∀e w',R e w'→∃v,e=.returned v∧K (a.put o.dst v) w'):if Region.wanted o (yielded ops a.tmps)=true then Oper.wp P o a w K Q else E:=by
 have d:Region.wanted o (yielded ops a.tmps)=true:=by simp[Region.wanted,hgd]
 rw[if_pos d]
 have b:(execOp a.eval o).run P w=.ok (.enter f vals) w:=by
  unfold execOp
  simp only[ho,resolve,Act.eval] at hv ⊢
  simp[Deferred.ofValue,invoke,go_sem,hv,eg]
 unfold Oper.wp
 rw[b,Oper.upon_enter]
 refine hc.mono ?_
 intro e w' g
 obtain⟨v,rfl,c⟩:=hk e w' g
 exact c
section
variable {w W W2:World} {g:Nat} {q:zl} {x x1:Acc}
theorem Sl.fresh {e:TypeId}{size n:Nat}{v:Value}{h:Option Nat}{xs:List Value}(hs:Sl W e size v h n xs)(hf:∀b,h=some b→w.heap.size≤b)(hw:zh w g q x)(hc:Chg (q.own g) W W2):Sl W2 e size v h n xs:=
 hs.chg hc fun b hb hm=>by
  have h1:=hw.lt b hm
  have h2:=hf b hb
  omega
theorem Blk.fresh {b:Nat}{t:TypeId}{cs:Array Value}(hB:Blk W b t cs)(hf:w.heap.size≤b)(hw:zh w g q x)(hc:Chg (q.own g) W W2):Blk W2 b t cs:=
 hB.chg hc fun hm=>by
  have h1:=hw.lt b hm
  omega
theorem Turned.zL (h:Turned w W g q x1 q)(hb:Below W.heap.size W W2):Turned w W2 g q x1 q:=h.trans (Turned.of_below h.at_ hb)
end
theorem zh.Qy {w:World}{g:Nat}{q:zl}{x:Acc}(h:zh w g q x)(v:Int):Turned w (w.setCell ⟨g,15,none⟩ (.int .i64 v)) g q {x with octets:=v} q:=h.yj 15 (.int .i64 v) {x with octets:=v} rfl rfl rfl rfl
theorem uG (l:List Int)(i:Int)(bs:List yg):numbers (l++[i]) bs=(bump i (numbers l bs).1,(numbers l bs).2++[(i,zw (numbers l bs).1 i)]):=by simp[numbers]
theorem xH:∀(l:List Int) (bs:List yg),ids (numbers l bs).1=ids bs:=by
 intro l bs
 have h:∀(l:List Int) (s:List yg×List (Int×Int)),ids (l.foldl (fun s id=>(bump id s.1,s.2++[(id,zw s.1 id)])) s).1=ids s.1:=by
  intro l
  induction l with
  |nil=>intro s;rfl
  |cons i r ih=>
   intro s
   rw[List.foldl_cons,ih]
   exact Xm i (fun b=>{b with next:=b.next+1}) (fun b=>rfl) _
 exact h l (bs,[])
theorem yO (l:List Int)(bs:List yg):(numbers l bs).1.length=bs.length:=by
 have:=congrArg List.length (xH l bs)
 simpa[ids] using this
theorem uz (l:List Int)(bs:List yg):(numbers l bs).2.length=l.length:=by
 have h:∀(l:List Int) (s:List yg×List (Int×Int)),(l.foldl (fun s id=>(bump id s.1,s.2++[(id,zw s.1 id)])) s).2.length=s.2.length+l.length:=by
  intro l
  induction l with
  |nil=>intro s;simp
  |cons i r ih=>
   intro s
   rw[List.foldl_cons,ih]
   simp
   omega
 have:=h l (bs,[])
 simpa[numbers] using this
theorem Zc {c:Xv}{last:Int}{bs:List yg}(hc:zay c)(hn:(ids bs).Nodup)(hb:∀b∈bs,BoxOk c last b)(l:List Int)(hl:l.Nodup)(hs:∀i∈l,zw bs i≤c.maxUid)(i:Int)(hi:i∈ids bs) :
  0≤zw (numbers l bs).1 i∧zw (numbers l bs).1 i≤4294967296:=by
 rw[vN l bs hn hl]
 have d:=Ye c l bs (fun b a hbl=>by
  have:=hs b.id hbl
  rw[vY hn a] at this
  exact this)
 have e:i∈ids (y8 l bs):=by rw[uW];exact hi
 obtain⟨b,a,rfl⟩:=List.mem_map.1 e
 have f:(ids (y8 l bs)).Nodup:=by rw[uW];exact hn
 have g:=d.ok last hb b a
 rw[vY f a]
 have h:=g.next
 have j:=hc.uid
 omega
structure Ur (w w5 wr:World)(g:Nat)(q:zl)(x2:Acc)(l:List Int)(B:Nat)(c0 c1 c2 c3 c4 c6 c7:Value)(k:Nat)(mv:Value):Prop where
 st:Turned w wr g q {x2 with boxes:=(numbers (l.take k) x2.boxes).1} q
 ch:Chg (q.own g) w5 wr
 blk:Blk wr B 54 #[c0,c1,c2,c3,c4,mv,c6,c7]
 mem:∃h,Sl wr 56 2 mv h k (zk zA (numbers (l.take k) x2.boxes).2)∧∀b,h=some b→w5.heap.size≤b
theorem Ur.next {w w5 wr W W2:World}{g:Nat}{q:zl}{x x2:Acc}{l:List Int}{B:Nat}{c0 c1 c2 c3 c4 c6 c7:Value}{k:Nat}{mv mv':Value}(h:Ur w w5 wr g q x2 l B c0 c1 c2 c3 c4 c6 c7 k mv)(hw:zh w g q x)(hB5:w5.heap.size≤B)(h5:w.heap.size≤w5.heap.size)(hk:k < l.length)(ht:Turned wr W g q {x2 with boxes:=bump l[k] (numbers (l.take k) x2.boxes).1} q){hh h':Option Nat}(hs:Sl W 56 2 mv hh k (zk zA (numbers (l.take k) x2.boxes).2))(hf:∀b,hh=some b→w5.heap.size≤b)(hs2:Sl W2 56 2 mv' h' (k+1) (zk zA (numbers (l.take k) x2.boxes).2++[.int .i64 l[k],.int .i64 (zw (numbers (l.take k) x2.boxes).1 l[k])]))(hc:Chg hh.toList W W2)(ho:h'=hh∨∃g,h'=some g∧W.heap.size≤g) :
  Ur w w5 (W2.setCell ⟨B,5,none⟩ mv') g q x2 l B c0 c1 c2 c3 c4 c6 c7 (k+1) mv':=by
 have c:=uG (l.take k) l[k] x2.boxes
 rw[←List.take_succ_eq_append_getElem hk] at c
 have r:=ht.chg.size
 have s:=h.ch.size
 have t:B < wr.heap.size:=h.blk.lt
 have a:Blk W B 54 #[c0,c1,c2,c3,c4,mv,c6,c7]:=h.blk.fresh (by omega) hw ht.chg
 have d:∀b,hh=some b→b≠B:=hs.yN a (by decide)
 have f:Chg (B :: hh.toList) W (W2.setCell ⟨B,5,none⟩ mv'):=(hc.mono fun j hj=>.inl (List.mem_cons_of_mem _ hj)).set (.inl (by simp)) mv'
 have m:∀j∈B :: hh.toList,w5.heap.size≤j:=fun j hj=>by
  rcases List.mem_cons.1 hj with rfl|hj
  ·omega
  ·exact hf j (by simpa using hj)
 have n:∀b,h'=some b→w5.heap.size≤b:=fun b hb=>by
  rcases ho with h1|⟨g2,h1,h2⟩
  ·exact hf b (by rw[←h1];exact hb)
  ·rw[h1] at hb
   injection hb with hb
   omega
 have o:h'≠some B:=fun e=>by
  rcases ho with h1|⟨g2,h1,h2⟩
  ·exact d B (by rw[←h1];exact e) rfl
  ·rw[h1] at e
   injection e with e
   omega
 refine⟨?_,?_,?_,⟨h',?_,n⟩⟩
 ·rw[c]
  exact(h.st.trans ht).newer hw f fun j hj=>Nat.le_trans h5 (m j hj)
 ·exact(h.ch.trans ht.chg (fun i hi=>.inl hi)).trans f fun i hi=>.inr (m i hi)
 ·exact(a.chg hc (fun hm=>d B (by simpa using hm) rfl)).set 5 mv'
 ·rw[c,Zf]
  exact hs2.far (p:=⟨B,5,none⟩) o mv'
end Go.Proofs.YtfhlhdmhgheonaaGreatDoor
