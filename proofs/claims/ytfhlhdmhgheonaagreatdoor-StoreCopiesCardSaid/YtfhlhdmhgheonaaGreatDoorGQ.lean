/-
  The library's DeleteFunc over a slice of numbers of the call's own, with whatever closure. The store's Place where the mailboxes stay the same: nothing turns. The reference's comparison of two lists of mailboxes: two that are the same.
-/
import Derived.Test.YtfhlhdmhgheonaaGreatDoorGD
import Derived.Test.YtfhlhdmhgheonaaGreatDoorGF
import Derived.Test.YtfhlhdmhgheonaaGreatDoorGK
import Derived.Lib.SliceRun
import Derived.Deep.QuietTactic
import Derived.BigQuiet
set_option maxRecDepth 100000
set_option maxHeartbeats 8000000
namespace Go.Proofs.YtfhlhdmhgheonaaGreatDoor
open Go.Shelf Go.RowKit Go.Lib
attribute [local go_sem ↓] Go.wp_at_zero Go.wp_at_succ
theorem YR {α:Type}(p:α→Bool):∀(l:List α),(l.any p=false∧place p l= -1)∨∃a x r,l=a++x :: r∧p x=true∧(∀y∈a,p y=false)∧place p l=(a.length:Int)
 |[]=>.inl ⟨rfl,rfl⟩
 |y :: r=>by
  by_cases hy:p y=true
  ·exact .inr ⟨[],y,r,rfl,hy,fun z hz=>(by simp at hz),by simp[place,hy]⟩
  ·have hy':p y=false:=by simpa using hy
   rcases YR p r with⟨h1,h2⟩|⟨a,x,r',h1,h2,h3,h4⟩
   ·exact .inl ⟨by simp[hy',h1],by simp[place,hy',h2]⟩
   ·refine .inr ⟨y :: a,x,r',by rw[h1];rfl,h2,fun z hz=>?_,?_⟩
    ·rcases List.mem_cons.1 hz with rfl|hz
     ·exact hy'
     ·exact h3 z hz
    ·have b:¬(a.length:Int)= -1:=by omega
     simp[place,hy',h4]
     omega
structure Yj (w wr:World)(v:Value)(hh:Option Nat)(l:List Int)(p:Int→Bool)(j i:Nat)(cur:List Int):Prop where
 sl:Sl wr 3 1 v hh l.length (cur.map encI)
 len:cur.length=l.length
 i_:i=((l.take j).filter (fun x=>!p x)).length
 lt:i < j
 done:cur.take i=(l.take j).filter (fun x=>!p x)
 rest:cur.drop j=l.drop j
 chg:Chg hh.toList w wr
theorem Yj.skip {w wr wr':World}{v:Value}{hh:Option Nat}{l:List Int}{p:Int→Bool}{j i:Nat}{cur:List Int}(h:Yj w wr v hh l p j i cur)(hj:j < l.length)(hp:p l[j]=true)(hb:Below wr.heap.size wr wr'):Yj w wr' v hh l p (j+1) i cur:=by
 have a:(l.take (j+1)).filter (fun x=>!p x)=(l.take j).filter (fun x=>!p x):=by
  rw[List.take_succ_eq_append_getElem hj,List.filter_append]
  simp[hp]
 refine⟨h.sl.keep (fun b hb2=>hb.block b (h.sl.lt b hb2)),h.len,by rw[a];exact h.i_,by have:=h.lt;omega,by rw[a];exact h.done,?_,h.chg.trans (Chg.of_below hb hh.toList) (fun k hk=>.inl hk)⟩
 have c:=congrArg (List.drop 1) h.rest
 simpa[List.drop_drop] using c
theorem Yj.keep {w wr wr':World}{b off n cap:Nat}{hh:Option Nat}{l:List Int}{p:Int→Bool}{j i:Nat}{cur:List Int}(h:Yj w wr (.slice (some ⟨b,off,none⟩) n cap) hh l p j i cur)(hhb:hh=some b)(hn:l.length=n)(hj:j < l.length)(hp:p l[j]=false)(hb:Below wr.heap.size wr wr') :
  Yj w (wr'.setCell ⟨b,off+i,none⟩ (.int .i64 l[j])) (.slice (some ⟨b,off,none⟩) n cap) hh l p (j+1) (i+1) (cur.set i l[j]):=by
 have d:(l.take (j+1)).filter (fun x=>!p x)=(l.take j).filter (fun x=>!p x)++[l[j]]:=by
  rw[List.take_succ_eq_append_getElem hj,List.filter_append]
  simp[hp]
 have e:=h.lt
 have a:=h.len
 subst hn
 refine⟨?_,by rw[List.length_set];exact a,?_,by omega,?_,?_,?_⟩
 ·have c:=(h.sl.keep (w':=wr') (fun k hk=>hb.block k (h.sl.lt k hk))).store i (.int .i64 l[j])
  rw[List.map_set]
  exact c
 ·rw[d,List.length_append,←h.i_]
  rfl
 ·rw[d,←h.done,List.take_succ_eq_append_getElem (by rw[List.length_set];omega),List.take_set,List.getElem_set_self]
  congr 1
  rw[List.set_eq_of_length_le (by rw[List.length_take];omega)]
 ·rw[List.drop_set,if_pos (by omega)]
  have c:=congrArg (List.drop 1) h.rest
  simpa[List.drop_drop] using c
 ·exact(h.chg.trans (Chg.of_below hb hh.toList) (fun k hk=>.inl hk)).set (.inl (by rw[hhb];simp)) _
theorem Yj.cut {w wr:World}{b off n cap:Nat}{hh:Option Nat}{l:List Int}{p:Int→Bool}{i:Nat}{cur:List Int}(h:Yj w wr (.slice (some ⟨b,off,none⟩) n cap) hh l p n i cur)(hhb:hh=some b)(hn:l.length=n) :
  Sl (wr.setCells b (off+i) (List.replicate (n - i) (.int .i64 0))) 3 1 (.slice (some ⟨b,off,none⟩) i cap) hh (l.filter fun x=>!p x).length ((l.filter fun x=>!p x).map encI)∧Chg hh.toList w (wr.setCells b (off+i) (List.replicate (n - i) (.int .i64 0))):=by
 subst hn
 have j:=h.lt
 have g:=h.done
 have a:=h.i_
 rw[List.take_of_length_le (Nat.le_refl _)] at g a
 rcases h.sl.2 with⟨_,hv,_⟩|⟨b',off',cap',c,hh',hv,hB,hnc,hcm,hcs,ht⟩
 ·cases hv
 simp only[Value.slice.injEq,Option.some.injEq,Addr.mk.injEq,and_true,true_and] at hv
 obtain⟨⟨rfl,rfl⟩,rfl⟩:=hv
 have d:=yZ b 3 (List.replicate (l.length - i) (.int .i64 0)) (off+i) wr c hB (by simp;omega)
 obtain⟨o,q,r,s⟩:=yY b (List.replicate (l.length - i) (Value.int .i64 0)) (off+i) wr
 refine⟨?_,o.trans h.chg.os,q.trans h.chg.tape,r.trans h.chg.output,by rw[s];exact h.chg.size,fun k hk hn=>(xD b _ _ wr k (fun e=>hn (by rw[hhb,e];simp))).trans (h.chg.block k hk hn)⟩
 rw[←a]
 refine⟨by rw[List.length_map,←a,Nat.mul_one],.inr ⟨b,off,cap,_,hhb,rfl,d,by omega,hcm,?_,?_⟩⟩
 ·simp only[List.size_toArray,List.length_append,List.length_take,List.length_drop,List.length_replicate,Array.length_toList]
  omega
 ·have f:(c.toList.take (off+i)).length=off+i:=by
   rw[List.length_take,Array.length_toList]
   omega
  show (List.drop off (c.toList.take (off+i)++List.replicate (l.length - i) (.int .i64 0)++_)).take (i * 1)=_
  rw[List.append_assoc,List.drop_append_of_le_length (by omega),List.take_append_of_le_length (by rw[List.length_drop,f];omega),List.drop_take,Nat.add_sub_cancel_left,List.take_take,Nat.mul_one,Nat.min_self]
  have m:(c.toList.drop off).take i=((c.toList.drop off).take (l.length * 1)).take i:=by
   rw[List.take_take,Nat.min_eq_left (by omega)]
  rw[m,ht,←List.map_take,g]
theorem zaS (v:Value)(hh:Option Nat)(l:List Int)(p:Int→Bool)(g:Nat)(lb:Array Value)(eg:∀args w,(callFunc g args).run Tryz.prog w=.ok (.enter g args) w)(w:World)(hs:Sl w 3 1 v hh l.length (l.map encI))(hn:l.length≤1099511627776)(hp:∀W,Chg hh.toList w W→∀x∈l,Calls Tryz.prog g (#[.int .i64 x]++lb) W fun e w'=>e=.returned (.bool (p x))∧Below W.heap.size W w') :
  Calls Tryz.prog 134 #[v,.func (.func g) #[] lb] w fun e w'=>∃v',e=.returned v'∧Sl w' 3 1 v' hh (l.filter fun x=>!p x).length ((l.filter fun x=>!p x).map encI)∧Chg hh.toList w w':=by
 have f:=zbb v [] l p g lb eg w (hs.reads [] (by simp)) hn (fun W hb x hx=>(hp W (Chg.of_below hb _) x hx).mono fun e w' ⟨u,h2⟩=>⟨u,za hb h2⟩)
 rcases YR p l with⟨u,h2⟩|⟨a,x,r,u,h2,h3,h4⟩
 ·have hf:(l.filter fun x=>!p x)=l:=by
   rw[List.filter_eq_self]
   intro x hx
   have:=List.any_eq_false.1 u x hx
   simpa using this
  rw[hf]
  rw[h2] at f
  have HS:=zdG hs
  clear hp u h2 hf hs
  go_enter Tryz.func134,Tryz.ntmps134
  go_wp2_with (first
   |(go_at_call 168;refine f.mono ?_;rintro e w1 ⟨rfl,F⟩;have D:=zdG F;clear f F)
   |fail)
  go_ret
  exact⟨_,rfl,HS.out.keep (fun b hb=>D.out.block b (HS.out.lt b hb)),Chg.of_below D.out _⟩
 ·rw[h4] at f
  have M:0 < l.length:=by rw[u,List.length_append,List.length_cons];omega
  obtain⟨b,c,d,Z,hv,a8,ai,aj,_⟩:=hs.at_ M
  subst hv
  obtain⟨n,B⟩:∃n,l.length=n:=⟨_,rfl⟩
  obtain⟨k,R⟩:∃k,a.length=k:=⟨_,rfl⟩
  have a9:k < n:=by rw[←B,u,←R];simp
  rw[R] at f
  have T:a.filter (fun x=>!p x)=a:=by
   rw[List.filter_eq_self]
   intro y S
   simp[h3 y S]
  have U:Yj w w (.slice (some ⟨b,c,none⟩) n d) hh l p (k+1) k l:=by
   have a3:l.take (k+1)=a++[x]:=by
    rw[u,←R,List.take_length_add_append]
    rfl
   have N:(l.take (k+1)).filter (fun x=>!p x)=a:=by
    rw[a3,List.filter_append,T]
    simp[h2]
   refine⟨by rw[←B];exact hs,rfl,by rw[N,R],by omega,?_,rfl,Chg.refl _ _⟩
   rw[N,u,←R,List.take_left]
  have aa:((k:Int)== -1)=false:=by first|(simp;done)|(simp;omega)
  have ab:IntKind.i64.wrap ((k:Int)+1)=(k:Int)+1:=IntWalk.i64_in _ (by omega)
  have HS:=zdG hs
  have HP:=zdG hp
  have h:=zdG U
  have m:=zdG B
  have V:=zdG Z
  rw[B] at hn a8 f
  rw[B]
  clear u h2 h3 h4 T U hs hp B Z M R
  go_enter Tryz.func134,Tryz.ntmps134
  go_wp2_with (first
   |(go_at_call 168;refine f.mono ?_;rintro e w1 ⟨rfl,F⟩;have D:=zdG F;clear f F)
   |fail)
  have a4:Hid (Yj w w1 (.slice (some ⟨b,c,none⟩) n d) hh l p (k+1) k l):=zdG ⟨h.out.sl.keep (fun b2 hb2=>D.out.block b2 (h.out.sl.lt b2 hb2)),h.out.len,h.out.i_,h.out.lt,h.out.done,h.out.rest,Chg.of_below D.out _⟩
  go_loopw [5,6] (fun si sj wr=>∃(i j:Nat) (G:List Int),j≤n∧i < j∧si=.int .i64 i∧sj=.int .i64 j∧Hid (Yj w wr (.slice (some ⟨b,c,none⟩) n d) hh l p j i G)) (fun _ sj _=>n - (intOf sj).toNat)
  case atStart=>exact⟨k,k+1,l,by omega,by omega,rfl,by go_num,a4⟩
  case round=>
   obtain⟨i,j,G,ak,al,rfl,rfl,K⟩:=hrel
   by_cases a7:j < n
   ·have X:(j:Int) < (n:Int):=by omega
    have J:j < l.length:=by rw[m.out];exact a7
    obtain⟨y,S⟩:∃y,l[j]=y:=⟨_,rfl⟩
    have O:G[j]?=some y:=by
     have u:=congrArg (fun z=>z[0]?) K.out.rest
     simp only[List.getElem?_drop,Nat.add_zero] at u
     rw[u,List.getElem?_eq_getElem J,S]
    obtain⟨b',a0,a1,_,L,_,_,_,C⟩:=K.out.sl.at_ (by rw[m.out];omega)
    have o:=(Value.slice.inj L).1
    injection o with o
    injection o with e1 e2
    subst e1 e2
    have cj:wr.cell? ⟨b,c+j,none⟩=some (.int .i64 y):=(C j (by omega)).1.trans (by rw[List.getElem?_map,O];rfl)
    obtain⟨ov,a2⟩:∃ov,wr.cell? ⟨b,c+i,none⟩=some ov:=by
     refine⟨_,(C i (by omega)).1.trans (List.getElem?_eq_getElem ?_)⟩
     rw[List.length_map,K.out.len]
     omega
    have ci:=a2
    have fi:=(C i (by omega)).2
    have q:=HP.out wr K.out.chg l[j] (List.getElem_mem J)
    rw[S] at q
    have ac:IntKind.i64.wrap ((i:Int)+1)=(i:Int)+1:=IntWalk.i64_in _ (by omega)
    have ad:IntKind.i64.wrap ((j:Int)+1)=(j:Int)+1:=IntWalk.i64_in _ (by omega)
    have ae:(i:Int) < (n:Int):=by omega
    have HY:=zdG S
    have P:b < wr.heap.size:=World.block_lt_of_cell? _ _ cj
    clear C L O S a2
    cases hq:p y with
    |true=>
     rw[hq] at q
     go_wp2_with (go_at_fn g;refine q.mono ?_;rintro e w4 ⟨rfl,s⟩;have Q:=zdG s;clear q s)
     have A:=zdG (K.out.skip J (by rw[HY.out];exact hq) Q.out)
     refine⟨?_,by simp[intOf];omega⟩
     first|exact⟨i,j+1,G,by omega,by omega,rfl,by go_num,A⟩|((repeat apply Exists.intro);exact⟨⟨i,j+1,G,by omega,by omega,rfl,by go_num,A⟩,rfl⟩)
    |false=>
     rw[hq] at q
     go_wp2_with (go_at_fn g;refine q.mono ?_;rintro e w4 ⟨rfl,s⟩;have af:=(s.cell (p:=⟨b,c+i,none⟩) P).trans ci;have ag:=(vM s (p:=⟨b,c+i,none⟩) P).trans fi;have Q:=zdG s;clear q s)
     have A:=K.out.keep V.out m.out J (by rw[HY.out];exact hq) Q.out
     rw[HY.out] at A
     have Y:=zdG A
     clear A
     refine⟨?_,by simp[intOf];omega⟩
     first|exact⟨i+1,j+1,_,by omega,by omega,by go_num,by go_num,Y⟩|((repeat apply Exists.intro);exact⟨⟨i+1,j+1,_,by omega,by omega,by go_num,by go_num,Y⟩,rfl⟩)
   ·have X:¬(j:Int) < (n:Int):=by omega
    obtain rfl:j=n:=by omega
    obtain⟨H,I⟩:=K.out.cut V.out m.out
    have E:∀t,t < j - i→(wr.cell? ⟨b,c+i+t,none⟩).isSome=true∧wr.frozen? ⟨b,c+i+t,none⟩=false:=fun t ht=>by
     obtain⟨b',a0,a1,_,L,_,_,_,C⟩:=K.out.sl.at_ (by rw[m.out];omega)
     have o:=(Value.slice.inj L).1
     injection o with o
     injection o with e1 e2
     subst e1 e2
     obtain⟨z1,z2⟩:=C (i+t) (by rw[m.out];omega)
     rw[←Nat.add_assoc] at z1 z2
     refine⟨?_,z2⟩
     rw[z1,List.getElem?_eq_getElem (by rw[List.length_map,K.out.len,m.out];omega)]
     rfl
    have ah:∀ty,(Builtin.clear_ #[37] ty #[.slice (some ⟨b,c+i,none⟩) (j - i) (d - i)]).run Tryz.prog wr=.ok (.tuple #[]) (wr.setCells b (c+i) (List.replicate (j - i) (.int .i64 0))):=fun ty=>
     Lib.run_clear_slice wr _ 3 ty (.int .i64 0) Tryz.underlying37 (fun W=>by first|rfl|kernel_rfl) rfl (by simp[Value.oneCell']) b (c+i) (j - i) (d - i) (by omega) (fun t ht=>(E t ht).1) (fun t ht=>(E t ht).2)
    have a5:=zdG H
    have a6:=zdG I
    have q1:(0:Int)≤(i:Int):=by omega
    have q2:(i:Int)≤(j:Int):=by omega
    have q3:(j:Int)≤(d:Int):=by omega
    have q4:¬d=i:=by omega
    have q5:((d:Int)==(i:Int))=false:=by simp;omega
    have q6:i≤d:=by omega
    have q7:i≤j:=by omega
    clear E H I
    go_wp2_with fail
    go_ret
    exact⟨_,rfl,a5.out,a6.out⟩
end Go.Proofs.YtfhlhdmhgheonaaGreatDoor
namespace Go.Proofs.YtfhlhdmhgheonaaGreatDoor
open Go.Shelf Go.RowKit
attribute [local go_sem ↓] Go.wp_at_zero Go.wp_at_succ
theorem ZT (v:Value)(S:List Nat)(l:List Int)(x:Int)(w:World)(hr:RdS w S 1 v l.length (l.map encI))(hn:l.length≤1099511627776) :
  Calls Tryz.prog 137 #[v,.int .i64 x] w fun e w'=>e=.returned (.bool (decide (x∈l)))∧w'=w:=by
 rcases Nat.eq_zero_or_pos l.length with h0|hpos
 ·obtain rfl:l=[]:=List.eq_nil_of_length_eq_zero h0
  obtain⟨A,a,rfl,_,_⟩:=hr.form
  refine(Tryz.slices_Contains_int_empty A a x w).mono ?_
  rintro e w' ⟨rfl,rfl⟩
  exact⟨by simp,rfl⟩
 ·obtain⟨b,c,a,rfl,_,_,f,_,d⟩:=hr.at_ hpos
  refine(Tryz.slices_Contains_int b c l.length a l x w (Nat.le_refl _) (by omega) (fun j hj=>?_)).mono ?_
  ·rw[d j (by omega),List.getElem?_map,List.getElem?_eq_getElem hj]
   simp[encI,List.getD,hj]
  ·rintro e w' ⟨rfl,rfl⟩
   refine⟨?_,rfl⟩
   rw[List.take_of_length_le (Nat.le_refl _)]
   simp
theorem ZX (x:Int)(B:Nat)(v:Value)(l:List Int)(W:World)(hB:W.cell? ⟨B,0,none⟩=some v)(hr:RdS W [] 1 v l.length (l.map encI))(hn:l.length≤1099511627776) :
  Calls Tryz.prog 136 (#[.int .i64 x]++#[.pointer (some ⟨B,0,none⟩)]) W fun e w'=>e=.returned (.bool (decide (x∈l)))∧Below W.heap.size W w':=by
 have a:=ZT v [] l x W hr hn
 show Calls Tryz.prog 136 #[.int .i64 x,.pointer (some ⟨B,0,none⟩)] W _
 clear hr
 generalize decide (x∈l)=r at a ⊢
 go_enter Tryz.func136,Tryz.ntmps136
 go_wp2_with (first
  |(go_at_call 137;refine a.mono ?_;rintro e b ⟨rfl,rfl⟩)
  |fail)
 go_ret
 exact⟨rfl,Below.refl _ _⟩
theorem ZR (x:Int)(B:Nat)(v:Value)(l:List Int)(W:World)(hB:W.cell? ⟨B,0,none⟩=some v)(hr:RdS W [] 1 v l.length (l.map encI))(hn:l.length≤1099511627776) :
  Calls Tryz.prog 138 (#[.int .i64 x]++#[.pointer (some ⟨B,0,none⟩)]) W fun e w'=>e=.returned (.bool (decide (x∈l)))∧Below W.heap.size W w':=by
 have a:=ZT v [] l x W hr hn
 show Calls Tryz.prog 138 #[.int .i64 x,.pointer (some ⟨B,0,none⟩)] W _
 clear hr
 generalize decide (x∈l)=r at a ⊢
 go_enter Tryz.func138,Tryz.ntmps138
 go_wp2_with (first
  |(go_at_call 137;refine a.mono ?_;rintro e b ⟨rfl,rfl⟩)
  |fail)
 go_ret
 exact⟨rfl,Below.refl _ _⟩
theorem zbs {w0 w4:World}{v4 vk:Value}{h4 hk:Option Nat}{l k:List Int}{B:Nat}(fn:Nat)(eg:∀args w,(callFunc fn args).run Tryz.prog w=.ok (.enter fn args) w)(hpred:∀(x:Int) (W:World),W.cell? ⟨B,0,none⟩=some vk→RdS W [] 1 vk k.length (k.map encI)→k.length≤1099511627776→Calls Tryz.prog fn (#[.int .i64 x]++#[.pointer (some ⟨B,0,none⟩)]) W fun e w'=>e=.returned (.bool (decide (x∈k)))∧Below W.heap.size W w')(hcell:w0.cell? ⟨B,0,none⟩=some vk)(hsk:Sl w0 3 1 vk hk k.length (k.map encI))(hkn:k.length≤1099511627776)(hs4:Sl w4 3 1 v4 h4 l.length (l.map encI))(hln:l.length≤1099511627776)(hb4:Below w0.heap.size w0 w4)(ho4:∀b,h4=some b→w0.heap.size≤b) :
  Calls Tryz.prog 134 #[v4,.func (.func fn) #[] #[.pointer (some ⟨B,0,none⟩)]] w4 fun e w'=>∃A5 n5 c5 h5,e=.returned (.slice A5 n5 c5)∧n5=(l.filter fun x=>!decide (x∈k)).length∧Sl w' 3 1 (.slice A5 n5 c5) h5 n5 ((l.filter fun x=>!decide (x∈k)).map encI)∧(∀b,h5=some b→w0.heap.size≤b)∧Below w0.heap.size w0 w':=by
 have c:=World.block_lt_of_cell? _ _ hcell
 refine(zaS v4 h4 l (fun x=>decide (x∈k)) fn _ eg w4 hs4 hln (fun W d x _=>?_)).mono ?_
 ·have a:Below w0.heap.size w0 W:=hb4.trans (d.below hb4.size (fun b a=>ho4 b (by simpa using a)))
  exact hpred x W ((a.cell (p:=⟨B,0,none⟩) c).trans hcell) ((hsk.keep (fun b hb2=>a.block b (hsk.lt b hb2))).reads [] (by simp)) hkn
 ·rintro e w' ⟨g,rfl,f,d⟩
  obtain⟨A5,c5,rfl,_,_⟩:=f.form
  exact⟨A5,_,c5,h4,rfl,rfl,f,ho4,hb4.trans (d.below hb4.size (fun b a=>ho4 b (by simpa using a)))⟩
theorem zb7 (w:World)(g:Nat)(q:zl)(x:Acc)(id:Int)(bs:List Int)(vb:Value)(Sb:List Nat)(h:zh w g q x)(hf:Fit x)(hr:RdS w Sb 1 vb bs.length (bs.map encI))(hbl:bs.length≤1099511627776)(hne:bs≠[])(i:Nat)(hi:i < q.ms.length)(hpl:place (fun m:zR=>decide (m.p.id=id)) q.ms=(i:Int))(hw:((rise bs).any fun id=>!zu x.boxes id)=false)(m0:zR)(hm0:q.ms[i]=m0)(hfr:((rise bs).filter fun b=>!decide (b∈yF m0.p.members))=[])(hlf:((yF m0.p.members).filter fun b=>!decide (b∈rise bs))=[]) :
  Calls Tryz.prog 53 #[.pointer (some ⟨g,0,none⟩),.int .i64 id,vb] w fun e w'=>e=.returned (.int .i64 0)∧Below w.heap.size w w':=by
 obtain⟨Ab,cb,bu,_,_⟩:=hr.form
 subst bu
 obtain⟨nb,L⟩:∃nb,bs.length=nb:=⟨_,rfl⟩
 have c4:0 < nb:=by
  rw[←L]
  exact List.length_pos_iff.2 hne
 have bc:i < x.mails.length:=by rw[←h.Za];exact hi
 obtain⟨b,d,bv,hv,bw,cg,ch,ai,a⟩:=h.xu i bc hi
 rw[hm0] at a
 have u:=h.parts _ (List.getElem_mem hi)
 rw[hm0] at u
 obtain⟨aj,ak,al,_,_⟩:=u.keys.form
 obtain⟨am,an,ao,_,_⟩:=u.mem.form
 have a3:m0.p∈x.mails:=by rw[←h.same,←hm0];exact List.mem_map_of_mem (List.getElem_mem hi)
 have c6:=hf.Jp a3
 have U:=h.mc hf id
 rw[hpl] at U
 have c8:¬(i:Int) < 0:=by omega
 have c9:(0:Int)≤(i:Int):=by omega
 obtain⟨n,ap⟩:∃n,x.mails.length=n:=⟨_,rfl⟩
 rw[ap] at hv
 have ca:(i:Int) < (n:Int):=by omega
 have bd:x.boxes.length≤1099511627776:=by have:=hf.nb;have:=hf.clock;have:=hf.cfg.mod;omega
 have I:(rise bs).length≤1099511627776:=Nat.le_trans (zY _) hbl
 have c:=fun W (hb:Below w.heap.size w W)=>uQ W g q x (h.later hb) bd bs _ Sb (hr.below hb) hbl
 rw[hw] at c
 have cc:((nb:Int)==0)=false:=by simp;omega
 have a4:∀W,Below w.heap.size w W→W.cell? ⟨g,11,none⟩=some (.slice (some ⟨b,d,none⟩) n bv)∧∀j,j < 8→W.cell? ⟨b,d+i * 8+j,none⟩=(xP m0)[j]?:=fun W hb=>⟨by rw[(h.later hb).zU,hv],fun j hj=>(hb.cell ai).trans (a j hj).1⟩
 have a5:∀W,Below w.heap.size w W→RdS W [] 2 m0.mv m0.p.members.length (zk zA m0.p.members):=fun W hb=>(u.mem.below hb).sub (fun _ _ _ hm=>by cases hm)
 rw[L] at c
 rw[L]
 obtain⟨t,Z⟩:∃t,(rise bs).length=t:=⟨_,rfl⟩
 rw[Z] at c I
 have be:=zdG c
 have bf:=zdG a4
 have bg:=zdG a5
 have bh:=zdG al
 have a6:=zdG ao
 have bi:=zdG hfr
 have bj:=zdG hlf
 have r:=zdG Z
 clear c a4 a5 al ao hfr hlf Z hpl hw hr hv a u hm0 a3 h hf hne L ap bw
 go_enter Tryz.func53,Tryz.ntmps53
 go_upto_region 11 with(first
  |(go_at_call 126;refine U.mono ?_;rintro e w1 ⟨rfl,a0⟩;have a7:=be.out w1 a0;have bk:=zdG a0;clear U a0)
  |(go_at_call 91;refine a7.mono ?_;rintro e w2 ⟨v2,h2,rfl,a1,aq,o⟩;obtain⟨M,N,rfl,_,_⟩:=a1.form;have bl:=zdG a1;have cd:=zdG aq;have bm:=zdG (za bk.out o);clear a7 a1 aq o)
  |fail)
 obtain⟨f,c⟩:∃f:World,f=w2.alloc (.cells #[.slice M t N] 37):=⟨_,rfl⟩
 rw[←c]
 obtain⟨C,hC⟩:∃C,C=w2.heap.size:=⟨_,rfl⟩
 rw[←hC]
 have dC:f.cell? ⟨C,0,none⟩=some (.slice M t N):=by rw[c,hC];exact(Blk.new w2 37 #[.slice M t N]).cell 0
 have J:Below w.heap.size w f:=by rw[c];exact za bm.out (below_alloc1 _ _)
 have a8:Sl f 3 1 (.slice M t N) h2 t ((rise bs).map encI):=by rw[c];exact bl.out.alloc _
 obtain⟨bx,a⟩:=bf.out f J
 have b0:f.cell? ⟨b,d+i * 8,none⟩=some (.int .i64 m0.p.id):=a 0 (by omega)
 have b1:f.cell? ⟨b,d+i * 8+1,none⟩=some (.int .i64 m0.p.thread):=a 1 (by omega)
 have H:f.cell? ⟨b,d+i * 8+2,none⟩=some (.string ⟨m0.p.text.toArray⟩):=a 2 (by omega)
 have b3:f.cell? ⟨b,d+i * 8+3,none⟩=some (.int .i64 m0.p.at_):=a 3 (by omega)
 have b4:f.cell? ⟨b,d+i * 8+4,none⟩=some (.slice aj m0.p.keys.length ak):=(a 4 (by omega)).trans (by rw[←bh.out];rfl)
 have b5:f.cell? ⟨b,d+i * 8+5,none⟩=some (.slice am m0.p.members.length an):=(a 5 (by omega)).trans (by rw[←a6.out];rfl)
 have b6:f.cell? ⟨b,d+i * 8+6,none⟩=some (.int .i64 m0.p.mod):=a 6 (by omega)
 have b7:f.cell? ⟨b,d+i * 8+7,none⟩=some (.int .i64 m0.p.born):=a 7 (by omega)
 have a9:=uR f m0.p.id m0.p.thread m0.p.at_ m0.p.mod m0.p.born ⟨m0.p.text.toArray⟩ (.slice aj m0.p.keys.length ak) (.slice am m0.p.members.length an) m0.p.members (by
  have h1:=bg.out f J
  rw[a6.out] at h1
  exact h1) (by omega)
 have bn:=zdG J
 have aa:=zdG a8
 have ab:=zdG dC
 clear a c hC J a8 dC
 go_upto_region 12 with(first
  |(go_at_call 129;refine a9.mono ?_;rintro e w3 ⟨v3,h3,rfl,a2,ar,au⟩;obtain⟨A3,c3,rfl,_,_⟩:=a2.form;have bo:=zdG a2;have ce:=zdG ar;have bp:=zdG au;clear a9 a2 ar au)
  |fail)
 clear b0 b1 H b3 b4 b5 b6 b7 bx
 obtain⟨O,P⟩:∃O,m0.p.members.length=O:=⟨_,rfl⟩
 have s:Hid ((yF m0.p.members).length=O):=zdG (by rw[←P];simp[yF])
 obtain⟨Q,G⟩:∃Q:World,Q=w3.alloc (.cells #[.slice A3 m0.p.members.length c3] 37):=⟨_,rfl⟩
 rw[←G]
 obtain⟨D,hD⟩:∃D,D=w3.heap.size:=⟨_,rfl⟩
 rw[←hD]
 have K:Below f.heap.size f Q:=by rw[G];exact za bp.out (below_alloc1 _ _)
 have dD:Q.cell? ⟨D,0,none⟩=some (.slice A3 O c3):=by rw[G,hD,←P];exact(Blk.new w3 37 #[.slice A3 m0.p.members.length c3]).cell 0
 have dC:Q.cell? ⟨C,0,none⟩=some (.slice M t N):=(K.cell (p:=⟨C,0,none⟩) (World.block_lt_of_cell? _ _ ab.out)).trans ab.out
 have v:Sl Q 3 1 (.slice M t N) h2 (rise bs).length ((rise bs).map encI):=by rw[r.out];exact aa.out.keep (fun H o=>K.block H (aa.out.lt H o))
 have R:Sl Q 3 1 (.slice A3 O c3) h3 (yF m0.p.members).length ((yF m0.p.members).map encI):=by
  rw[s.out,G,←P]
  exact bo.out.alloc _
 have V:=xK Q (.slice M t N) (rise bs) [] (v.reads [] (by simp)) (by rw[r.out];exact I)
 rw[r.out] at V
 have z:O≤1099511627776:=by omega
 have bq:=zdG (za bn.out K)
 have S:=zdG v
 have A:=zdG R
 have X:=zdG dD
 have T:=zdG dC
 clear G hD K v R dD P
 go_upto_region 13 with(first
  |(go_at_call 135;refine V.mono ?_;rintro e w4 ⟨v4,h4,rfl,av,aw,ax⟩;have Y:=zbs (w0:=Q) (w4:=w4) (v4:=v4) (h4:=h4) (l:=rise bs) (k:=yF m0.p.members) 136 (enters_of Tryz.func136 (by kernel_rfl) rfl) (fun y W hB hr hn=>ZX y D _ _ W hB hr hn) X.out A.out (by rw[s.out];exact z) (by rw[r.out];exact av) (by rw[r.out];exact I) aw ax;rw[bi.out] at Y;clear V av ax aw)
  |(go_at_call 134;refine Y.mono ?_;rintro e w5 ⟨A5,n5,c5,h5,rfl,ay,bz,b',az⟩;have ac:n5=0:=ay;subst ac;have B:=zdG az;clear Y bz b' az ay)
  |fail)
 have cf:w5.cell? ⟨D,0,none⟩=some (.slice A3 O c3):=(B.out.cell (p:=⟨D,0,none⟩) (World.block_lt_of_cell? _ _ X.out)).trans X.out
 have ad:w5.cell? ⟨C,0,none⟩=some (.slice M t N):=(B.out.cell (p:=⟨C,0,none⟩) (World.block_lt_of_cell? _ _ T.out)).trans T.out
 have ae:Sl w5 3 1 (.slice M t N) h2 (rise bs).length ((rise bs).map encI):=S.out.keep (fun H o=>B.out.block H (S.out.lt H o))
 have af:Sl w5 3 1 (.slice A3 O c3) h3 (yF m0.p.members).length ((yF m0.p.members).map encI):=A.out.keep (fun H o=>B.out.block H (A.out.lt H o))
 have E:=xK w5 (.slice A3 O c3) (yF m0.p.members) [] (af.reads [] (by simp)) (by rw[s.out];exact z)
 rw[s.out] at E
 have ag:=zdG ad
 have br:=zdG ae
 clear ad ae af
 go_upto_region 14 with(first
  |(go_at_call 135;refine E.mono ?_;rintro e w6 ⟨v6,h6,rfl,a',b8,b9⟩;have F:=zbs (w0:=w5) (w4:=w6) (v4:=v6) (h4:=h6) (l:=yF m0.p.members) (k:=rise bs) 138 (enters_of Tryz.func138 (by kernel_rfl) rfl) (fun y W hB hr hn=>ZR y C _ _ W hB hr hn) ag.out br.out (by rw[r.out];exact I) (by rw[s.out];exact a') (by rw[s.out];exact z) b8 b9;rw[bj.out] at F;clear E a' b9 b8)
  |(go_at_call 134;refine F.mono ?_;rintro e w7 ⟨A7,n7,c7,h7,rfl,ba,c0,c1,bb⟩;have ah:n7=0:=ba;subst ah;have bt:=zdG bb;clear F c0 c1 bb ba)
  |fail)
 go_wp2_with fail
 go_ret
 exact⟨rfl,(za (za bq.out B.out) (za bt.out (below_alloc1 _ _)))⟩
theorem zcM (v1 v2:Value)(S1 S2:List Nat)(l:List yg)(w:World)(h1:RdS w S1 6 v1 l.length (zk xQ l))(h2:RdS w S2 6 v2 l.length (zk xQ l))(hn:l.length≤1099511627776) :
  Calls Tryz.prog 59 #[v1,v2] w fun e w'=>e=.returned (.bool true)∧Below w.heap.size w w':=by
 obtain⟨U,V,c,_,_⟩:=h1.form
 obtain⟨W,X,d,_,_⟩:=h2.form
 subst c d
 obtain⟨n,h⟩:∃n,l.length=n:=⟨_,rfl⟩
 have t:=zdG h1
 have u:=zdG h2
 have v:=zdG h
 rw[h] at hn ⊢
 clear h1 h2 h
 go_enter Tryz.func59,Tryz.ntmps59
 go_wp2_with fail
 go_loopw [5] (fun iv wr=>∃k:Nat,k≤n∧iv=.int .i64 k∧Hid (Below w.heap.size w wr)) (fun iv _=>n - (intOf iv).toNat)
 case atStart=>exact⟨0,Nat.zero_le _,rfl,zdG (Below.refl _ _)⟩
 case round=>
  obtain⟨k,Y,rfl,s⟩:=hrel
  by_cases x:k < n
  ·have q:(k:Int) < (n:Int):=by omega
   have C:(0:Int)≤(k:Int):=by omega
   have r:k < l.length:=by rw[v.out];exact x
   have D:IntKind.i64.wrap ((k:Int)+1)=(k:Int)+1:=IntWalk.i64_in _ (by omega)
   obtain⟨y,z⟩:∃y,l[k]=y:=⟨_,rfl⟩
   obtain⟨i,m,G,c,_,_,A,_,f⟩:=t.out.at_ (by omega)
   obtain⟨o,p,H,d,_,_,B,_,g⟩:=u.out.at_ (by omega)
   have E:=(Value.slice.inj c).1
   have F:=(Value.slice.inj d).1
   subst E F
   have a:∀j,j < 6→wr.cell? ⟨i,m+k * 6+j,none⟩=(xQ y)[j]?:=fun j hj=>by
    rw[Nat.add_assoc]
    refine(s.out.cell A).trans ((f (k * 6+j) (by omega)).trans ?_)
    rw[zy zT l k j r hj,z]
   have b:∀j,j < 6→wr.cell? ⟨o,p+k * 6+j,none⟩=(xQ y)[j]?:=fun j hj=>by
    rw[Nat.add_assoc]
    refine(s.out.cell B).trans ((g (k * 6+j) (by omega)).trans ?_)
    rw[zy zT l k j r hj,z]
   have I:wr.cell? ⟨i,m+k * 6,none⟩=some (.int .i64 y.id):=a 0 (by omega)
   have J:wr.cell? ⟨i,m+k * 6+1,none⟩=some (.string ⟨y.name.toArray⟩):=a 1 (by omega)
   have K:wr.cell? ⟨i,m+k * 6+2,none⟩=some (.int .i64 y.parent):=a 2 (by omega)
   have L:wr.cell? ⟨i,m+k * 6+3,none⟩=some (.int .i64 y.valid):=a 3 (by omega)
   have M:wr.cell? ⟨i,m+k * 6+4,none⟩=some (.int .i64 y.next):=a 4 (by omega)
   have N:wr.cell? ⟨i,m+k * 6+5,none⟩=some (.int .i64 y.mod):=a 5 (by omega)
   have O:wr.cell? ⟨o,p+k * 6,none⟩=some (.int .i64 y.id):=b 0 (by omega)
   have P:wr.cell? ⟨o,p+k * 6+1,none⟩=some (.string ⟨y.name.toArray⟩):=b 1 (by omega)
   have Q:wr.cell? ⟨o,p+k * 6+2,none⟩=some (.int .i64 y.parent):=b 2 (by omega)
   have R:wr.cell? ⟨o,p+k * 6+3,none⟩=some (.int .i64 y.valid):=b 3 (by omega)
   have S:wr.cell? ⟨o,p+k * 6+4,none⟩=some (.int .i64 y.next):=b 4 (by omega)
   have T:wr.cell? ⟨o,p+k * 6+5,none⟩=some (.int .i64 y.mod):=b 5 (by omega)
   clear a b f g c d z
   go_wp2_with fail
   go_quiet (fail)
   go_wp2_with fail
   refine⟨?_,by simp[intOf];omega⟩
   first|exact⟨k+1,by omega,by go_num,zdG (below_drewN' s.out _)⟩|((repeat apply Exists.intro);exact⟨⟨k+1,by omega,by go_num,zdG (below_drewN' s.out _)⟩,rfl⟩)
  ·have q:¬(k:Int) < (n:Int):=by omega
   go_wp2_with fail
   go_ret
   exact⟨rfl,s.out⟩
end Go.Proofs.YtfhlhdmhgheonaaGreatDoor
