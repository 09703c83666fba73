/-
  The library's DeleteFunc over a slice of numbers of the call's own, with whatever closure. The store's Place where the mailboxes stay the same: nothing turns. The reference's comparison of two lists of mailboxes: two that are the same.
-/
import Derived.Test.YtnofkliaofgiaaaGreatDoorGD
import Derived.Test.YtnofkliaofgiaaaGreatDoorGF
import Derived.Test.YtnofkliaofgiaaaGreatDoorGK
import Derived.Lib.SliceRun
import Derived.Deep.QuietTactic
import Derived.BigQuiet
set_option maxRecDepth 100000
set_option maxHeartbeats 8000000
open Go.Proofs.Tryz
open Array renaming length_toList→PL
open Exists renaming intro→OA
open Go renaming Value→Oe,World→Oc
open Go.Builtin renaming clear_→P4
open Go.Ending renaming returned→RR
open Go.IntKind renaming i64→Ov
open Go.IntWalk renaming i64_in→Og
open Go.Proofs renaming enters_of→O9
open Go.RowKit renaming Below→Od
open Go.RowKit.Below renaming refl→Ok
open Go.Value renaming pointer→RQ,slice→RO,string→RP,int→P5
open Go.Value.slice renaming inj→OM,injEq→PH
open Go.World renaming block_lt_of_cell?→OH
open List renaming append_assoc→O4,eq_nil_of_length_eq_zero→Oi,getElem?_eq_getElem→Ot,getElem?_map→O5,getElem_mem→Oj,getElem_set_self→Ph,length_append→Oo,length_cons→OT,length_drop→O8,length_map→Ow,length_set→Pd,length_take→OU,mem_cons→OB,mem_map_of_mem→OV,replicate→Pi,size_toArray→PC,take_of_length_le→Ou,take_succ_eq_append_getElem→Oh
open Nat renaming add_assoc→O1,le_refl→Oq,le_trans→Ol
open Option.some renaming injEq→Pk
open _root_ renaming List→Ob,Option→OC,if_pos→OG
namespace Go.Proofs.YtnofkliaofgiaaaGreatDoor
attribute [local go_sem ↓] Go.wp_at_zero Go.wp_at_succ
section
open Go.Shelf Go.RowKit Go.Lib
theorem VQ {α:Type}(p:α→Bool):∀(l:Ob α),(l.any p=false∧yU p l= -1)∨∃a x r,l=a++x :: r∧p x=true∧(∀y∈a,p y=false)∧yU p l=(a.length:Int)
 |[]=>.inl ⟨rfl,rfl⟩
 |y :: r=>by
  by_cases hy:p y=true
  ·exact .inr ⟨[],y,r,rfl,hy,fun z hz=>(by simp at hz),by simp[yU,hy]⟩
  ·have hy':p y=false:=aU
   rcases VQ p r with⟨h1,h2⟩|⟨a,x,r',h1,h2,h3,h4⟩
   ·exact .inl ⟨by simp[hy',h1],by simp[yU,hy',h2]⟩
   ·refine .inr ⟨y :: a,x,r',by rw[h1];rfl,h2,fun z hz=>?_,?_⟩
    ·rcases OB.1 hz with rfl|hz
     ·exact hy'
     ·exact h3 z hz
    ·have h5:¬(a.length:Int)= -1:=O
     simp[yU,hy',h4]
     omega
structure XE (w wr:Oc)(v:Oe)(hh:OC Nat)(l:Ob Int)(p:Int→Bool)(j i:Nat)(cur:Ob Int):Prop where
 sl:Sl wr 3 1 v hh l.length (cur.map yJ)
 len:cur.length=l.length
 i_:i=((l.take j).filter (fun x=>!p x)).length
 lt:i < j
 done:cur.take i=(l.take j).filter (fun x=>!p x)
 rest:cur.drop j=l.drop j
 N4:NH hh.toList w wr
theorem XE.skip {w wr wr':Oc}{v:Oe}{hh:OC Nat}{l:Ob Int}{p:Int→Bool}{j i:Nat}{cur:Ob Int}(h:XE w wr v hh l p j i cur)(hj:j < l.length)(hp:p l[j]=true)(hb:Od wr wr wr'):XE w wr' v hh l p (j+1) i cur:=by
 exact Mi
theorem XE.keep {w wr wr':Oc}{b off n cap:Nat}{hh:OC Nat}{l:Ob Int}{p:Int→Bool}{j i:Nat}{cur:Ob Int}(h:XE w wr (RO (some (Y b off)) n cap) hh l p j i cur)(hhb:hh=some b)(hn:l.length=n)(hj:j < l.length)(hp:p l[j]=false)(hb:Od wr wr wr') :
  XE w (wr'.setCell (Y b (off+i)) (I l[j])) (RO (some (Y b off)) n cap) hh l p (j+1) (i+1) (cur.set i l[j]):=by
 have h1:(l.take (j+1)).filter (fun x=>!p x)=(l.take j).filter (fun x=>!p x)++[l[j]]:=by
  rw[Oh hj,List.filter_append]
  simp[hp]
 have c:=h.lt
 have a:=h.len
 subst hn
 refine⟨?_,by rw[Pd];exact a,?_,O,?_,?_,?_⟩
 ·have h2:=(h.sl.keep (w':=wr') (fun k hk=>hb.block k (h.sl.lt k hk))).store i (I l[j])
  rw[List.map_set]
  exact h2
 ·rw[h1,Oo,←h.i_]
  rfl
 ·exact Nq
 ·exact GD
 ·exact(h.N4.trans (NH.of_below hb hh.toList) (fun k hk=>.inl hk)).set (.inl (by rw[hhb];simp)) _
theorem XE.cut {w wr:Oc}{b off n cap:Nat}{hh:OC Nat}{l:Ob Int}{p:Int→Bool}{i:Nat}{cur:Ob Int}(h:XE w wr (RO (some (Y b off)) n cap) hh l p n i cur)(hhb:hh=some b)(hn:l.length=n) :
  Sl (wr.setCells b (off+i) (Pi (n - i) (I 0))) 3 1 (RO (some (Y b off)) i cap) hh (l.filter fun x=>!p x).length ((l.filter fun x=>!p x).map yJ)∧NH hh.toList w (wr.setCells b (off+i) (Pi (n - i) (I 0))):=by
 subst hn
 have j:=h.lt
 have f:=h.done
 have d:=h.i_
 rw[Ou (Oq _)] at f d
 rcases h.sl.2 with⟨_,hv,_⟩|⟨b',off',cap',c,hh',hv,hB,hnc,hcm,hcs,ht⟩
 ·cases hv
 simp only[PH,Pk,Addr.mk.injEq,and_true,true_and] at hv
 obtain⟨⟨rfl,rfl⟩,rfl⟩:=hv
 have a:=xL b 3 (Pi (l.length - i) (I 0)) (off+i) wr c hB zT
 obtain⟨m,o,q,r⟩:=xM b (Pi (l.length - i) (P5 .i64 0)) (off+i) wr
 refine⟨?_,m.trans h.N4.os,o.trans h.N4.tape,q.trans h.N4.output,by rw[r];exact h.N4.size,fun k hk hn=>(xY b _ _ wr k (fun e=>hn (by rw[hhb,e];simp))).trans (h.N4.block k hk hn)⟩
 rw[←d]
 refine⟨by rw[Ow,←d,Nat.mul_one],.inr ⟨b,off,cap,_,hhb,rfl,a,O,hcm,?_,?_⟩⟩
 ·exact FM
 ·have bq:(c.toList.take (off+i)).length=off+i:=by
   rw[OU,PL]
   omega
  show (List.drop off (c.toList.take (off+i)++Pi (l.length - i) (I 0)++_)).take (i * 1)=_
  rw[O4,List.drop_append_of_le_length O,List.take_append_of_le_length aT,List.drop_take,Nat.add_sub_cancel_left,List.take_take,Nat.mul_one,Nat.min_self]
  have g:(c.toList.drop off).take i=((c.toList.drop off).take (l.length * 1)).take i:=by
   rw[List.take_take,Nat.min_eq_left O]
  rw[g,ht,←List.map_take,f]
theorem qD (v:Oe)(hh:OC Nat)(l:Ob Int)(p:Int→Bool)(g:Nat)(lb:Array Oe)(eg:∀args w,(callFunc g args).run prog w=.ok (.enter g args) w)(w:Oc)(hs:Sl w 3 1 v hh l.length (l.map yJ))(hn:l.length≤1099511627776)(hp:∀W,NH hh.toList w W→∀x∈l,C g (#[I x]++lb) W fun e w'=>e=RR (.bool (p x))∧Od W W w') :
  C 91 #[v,.func (.func g) #[] lb] w fun e w'=>∃v',e=RR v'∧Sl w' 3 1 v' hh (l.filter fun x=>!p x).length ((l.filter fun x=>!p x).map yJ)∧NH hh.toList w w':=by
 have d:=qP v [] l p g lb eg w (hs.reads [] zv) hn (fun W hb x hx=>(hp W (NH.of_below hb _) x hx).mono fun e w' ⟨h1,h2⟩=>⟨h1,zj hb h2⟩)
 rcases VQ p l with⟨h1,h2⟩|⟨a,x,r,h1,h2,h3,h4⟩
 ·have P:(l.filter fun x=>!p x)=l:=by
   exact G1
  rw[P]
  rw[h2] at d
  have HS:=V hs
  clear hp h1 h2 P hs
  go_enter func91,ntmps91
  go_wp2_with (first
   |(go_at_call 150;refine d.mono ?_;rintro e R ⟨rfl,u⟩;have bg:=V u;clear d u)
   |fail)
  exact G0
 ·rw[h4] at d
  have D:0 < l.length:=by rw[h1,Oo,OT];omega
  obtain⟨b,c,cap,G,hv,N,a4,a2,_⟩:=hs.at_ D
  subst hv
  obtain⟨n,ou⟩:∃n,l.length=n:=⟨_,rfl⟩
  obtain⟨k,hk⟩:∃k,a.length=k:=⟨_,rfl⟩
  have ab:k < n:=by rw[←ou,h1,←hk];simp
  rw[hk] at d
  have Gb:a.filter (fun x=>!p x)=a:=by
   rw[List.filter_eq_self]
   intro y hy
   simp[h3 y hy]
  have K:XE w w (RO (some (Y b c)) n cap) hh l p (k+1) k l:=by
   exact MH
  have aa:((k:Int)== -1)=false:=by first|(simp;done)|(simp;omega)
  have ac:Ov.wrap ((k:Int)+1)=(k:Int)+1:=Og _ O
  have HS:=V hs
  have U:=V hp
  have f:=V K
  have ai:=V ou
  have E:=V G
  rw[ou] at hn N d
  rw[ou]
  clear h1 h2 h3 h4 Gb K hs hp ou G D hk
  go_enter func91,ntmps91
  go_wp2_with (first
   |(go_at_call 150;refine d.mono ?_;rintro e R ⟨rfl,u⟩;have bg:=V u;clear d u)
   |fail)
  have M:Z (XE w R (RO (some (Y b c)) n cap) hh l p (k+1) k l):=V ⟨f.o.sl.keep (fun b2 hb2=>bg.o.block b2 (f.o.sl.lt b2 hb2)),f.o.len,f.o.i_,f.o.lt,f.o.done,f.o.rest,NH.of_below bg.o _⟩
  go_loopw [5,6] (fun si sj wr=>∃(i j:Nat) (cur:Ob Int),j≤n∧i < j∧si=I i∧sj=I j∧Z (XE w wr (RO (some (Y b c)) n cap) hh l p j i cur)) (fun _ sj _=>n - (intOf sj).toNat)
  case atStart=>exact⟨k,k+1,l,O,O,rfl,zE,M⟩
  case round=>
   obtain⟨i,j,cur,a8,a6,rfl,rfl,HR⟩:=hrel
   by_cases af:j < n
   ·have H:(j:Int) < (n:Int):=O
    have hj2:j < l.length:=vN
    obtain⟨y,hy⟩:∃y,l[j]=y:=⟨_,rfl⟩
    have B:cur[j]?=some y:=by
     exact FJ
    obtain⟨X,L,F,_,z,_,_,_,s⟩:=HR.o.sl.at_ Vb
    have q:=(OM z).1
    injection q with q
    injection q with e1 e2
    subst e1 e2
    have cj:wr.cell? (Y b (c+j))=some (I y):=(s j O).1.trans (by rw[O5,B];rfl)
    obtain⟨Q,J⟩:∃Q,wr.cell? (Y b (c+i))=some Q:=by
     refine⟨_,(s i O).1.trans (Ot ?_)⟩
     rw[Ow,HR.o.len]
     omega
    have ci:=J
    have fi:=(s i O).2
    have m:=U.o wr HR.o.N4 l[j] (Oj hj2)
    rw[hy] at m
    have a7:Ov.wrap ((i:Int)+1)=(i:Int)+1:=Og _ O
    have a9:Ov.wrap ((j:Int)+1)=(j:Int)+1:=Og _ O
    have a5:(i:Int) < (n:Int):=O
    have HY:=V hy
    have A:b < wr.heap.size:=OH _ _ cj
    clear s z B hy J
    cases hq:p y with
    |true=>
     rw[hq] at m
     go_wp2_with (go_at_fn g;refine m.mono ?_;rintro e w4 ⟨rfl,h⟩;have ah:=V h;clear m h)
     exact MU
    |false=>
     rw[hq] at m
     go_wp2_with (go_at_fn g;refine m.mono ?_;rintro e w4 ⟨rfl,h⟩;have a0:=(h.cell (p:=⟨b,c+i,none⟩) A).trans ci;have a1:=(Zk h (p:=⟨b,c+i,none⟩) A).trans fi;have ah:=V h;clear m h)
     have l8:=HR.o.keep E.o ai.o hj2 (by rw[HY.o];exact hq) ah.o
     rw[HY.o] at l8
     exact M2
   ·have H:¬(j:Int) < (n:Int):=O
    obtain rfl:j=n:=O
    obtain⟨Cn,Cm⟩:=HR.o.cut E.o ai.o
    have Gc:∀t,t < j - i→(wr.cell? (Y b (c+i+t))).isSome=true∧wr.frozen? (Y b (c+i+t))=false:=fun t ht=>by
     obtain⟨X,L,F,_,z,_,_,_,s⟩:=HR.o.sl.at_ Vb
     have q:=(OM z).1
     injection q with q
     injection q with e1 e2
     subst e1 e2
     obtain⟨S,T⟩:=s (i+t) Vb
     rw[←O1] at S T
     refine⟨?_,T⟩
     rw[S,Ot (by rw[Ow,HR.o.len,ai.o];omega)]
     rfl
    have a3:∀ty,(P4 #[35] ty #[.slice (some (Y b (c+i))) (j - i) (cap - i)]).run prog wr=.ok (.tuple #[]) (wr.setCells b (c+i) (Pi (j - i) (I 0))):=fun ty=>
     Lib.run_clear_slice wr _ 3 ty (I 0) underlying35 (fun W=>by first|rfl|kernel_rfl) rfl xt b (c+i) (j - i) (cap - i) O (fun t ht=>(Gc t ht).1) (fun t ht=>(Gc t ht).2)
    exact Ms
end
section
open Go.Shelf Go.RowKit
theorem Xa (v:Oe)(S:Ob Nat)(l:Ob Int)(x:Int)(w:Oc)(hr:NN w S 1 v l.length (l.map yJ))(hn:l.length≤1099511627776) :
  C 94 #[v,I x] w fun e w'=>e=RR (.bool (decide (x∈l)))∧w'=w:=by
 rcases Nat.eq_zero_or_pos l.length with h0|hpos
 ·obtain rfl:l=[]:=Oi h0
  obtain⟨A,a,rfl,_,_⟩:=hr.form
  refine(Tryz.slices_Contains_int_empty A a x w).mono ?_
  rintro e w' ⟨rfl,rfl⟩
  exact⟨zv,rfl⟩
 ·obtain⟨b,d,a,rfl,_,_,f,_,c⟩:=hr.at_ hpos
  refine(Tryz.slices_Contains_int b d l.length a l x w (Oq _) O (fun j hj=>?_)).mono ?_
  ·rw[c j O,O5,Ot hj]
   simp[yJ,List.getD,hj]
  ·rintro e w' ⟨rfl,rfl⟩
   refine⟨?_,rfl⟩
   rw[Ou (Oq _)]
   simp
theorem Xg (x:Int)(B:Nat)(v:Oe)(l:Ob Int)(W:Oc)(hB:W.cell? (Y B 0)=some v)(hr:NN W [] 1 v l.length (l.map yJ))(hn:l.length≤1099511627776) :
  C 93 (#[I x]++#[RQ (some (Y B 0))]) W fun e w'=>e=RR (.bool (decide (x∈l)))∧Od W W w':=by
 have hc:=Xa v [] l x W hr hn
 show C 93 #[I x,Y B 0] W _
 clear hr
 generalize decide (x∈l)=r at hc ⊢
 go_enter func93,ntmps93
 exact FW
theorem Xh (x:Int)(B:Nat)(v:Oe)(l:Ob Int)(W:Oc)(hB:W.cell? (Y B 0)=some v)(hr:NN W [] 1 v l.length (l.map yJ))(hn:l.length≤1099511627776) :
  C 95 (#[I x]++#[RQ (some (Y B 0))]) W fun e w'=>e=RR (.bool (decide (x∈l)))∧Od W W w':=by
 have hc:=Xa v [] l x W hr hn
 show C 95 #[I x,Y B 0] W _
 clear hr
 generalize decide (x∈l)=r at hc ⊢
 go_enter func95,ntmps95
 exact FW
theorem rY {w0 w4:Oc}{v4 vk:Oe}{h4 hk:OC Nat}{l k:Ob Int}{B:Nat}(fn:Nat)(eg:∀args w,(callFunc fn args).run prog w=.ok (.enter fn args) w)(hpred:∀(x:Int) (W:Oc),W.cell? (Y B 0)=some vk→NN W [] 1 vk k.length (k.map yJ)→k.length≤1099511627776→C fn (#[I x]++#[RQ (some (Y B 0))]) W fun e w'=>e=RR (.bool (decide (x∈k)))∧Od W W w')(hcell:w0.cell? (Y B 0)=some vk)(hsk:Sl w0 3 1 vk hk k.length (k.map yJ))(hkn:k.length≤1099511627776)(hs4:Sl w4 3 1 v4 h4 l.length (l.map yJ))(hln:l.length≤1099511627776)(hb4:Od w0 w0 w4)(ho4:∀b,h4=some b→w0.heap.size≤b) :
  C 91 #[v4,.func (.func fn) #[] #[Y B 0]] w4 fun e w'=>∃A5 n5 c5 h5,e=RR (RO A5 n5 c5)∧n5=(l.filter fun x=>!decide (x∈k)).length∧Sl w' 3 1 (RO A5 n5 c5) h5 n5 ((l.filter fun x=>!decide (x∈k)).map yJ)∧(∀b,h5=some b→w0.heap.size≤b)∧Od w0 w0 w':=by
 have Gd:=OH _ _ hcell
 refine(qD v4 h4 l (fun x=>decide (x∈k)) fn _ eg w4 hs4 hln (fun W hc x _=>?_)).mono ?_
 ·exact MX
 ·rintro e w' ⟨c,rfl,a,hc⟩
  obtain⟨A5,c5,rfl,_,_⟩:=a.form
  exact⟨A5,_,c5,h4,rfl,rfl,a,ho4,hb4.trans (hc.below hb4.size (fun b hb=>ho4 b xQ))⟩
theorem tP (w:Oc)(g:Nat)(q:zW)(x:Acc)(id:Int)(bs:Ob Int)(vb:Oe)(Sb:Ob Nat)(h:zH w g q x)(hf:Fit x)(hr:NN w Sb 1 vb bs.length (bs.map yJ))(hbl:bs.length≤1099511627776)(hne:bs≠[])(i:Nat)(hi:i < q.ms.length)(hpl:yU (fun m:xd=>decide (m.p.id=id)) q.ms=(i:Int))(hw:((rise bs).any fun id=>!zZ x.zg id)=false)(m0:xd)(hm0:q.ms[i]=m0)(hfr:((rise bs).filter fun b=>!decide (b∈x9 m0.p.zr))=[])(hlf:((x9 m0.p.zr).filter fun b=>!decide (b∈rise bs))=[]) :
  C 36 #[Y g 0,I id,vb] w fun e w'=>e=RR (I 0)∧Od w w w':=by
 obtain⟨Ab,cb,bz,_,_⟩:=hr.form
 subst bz
 obtain⟨nb,A⟩:∃nb,bs.length=nb:=⟨_,rfl⟩
 have c0:0 < nb:=by
  rw[←A]
  exact List.length_pos_iff.2 hne
 have bt:i < x.zC.length:=aZ
 obtain⟨b,c,bo,hv,br,ce,c9,ac,a⟩:=h.ud i bt hi
 rw[hm0] at a
 have u:=h.parts _ (Oj hi)
 rw[hm0] at u
 obtain⟨U,a2,ae,_,_⟩:=u.keys.form
 obtain⟨X,a3,al,_,_⟩:=u.mem.form
 have am:m0.p∈x.zC:=bA
 have c1:=hf.lW am
 have P:=h.mc hf id
 rw[hpl] at P
 have cd:¬(i:Int) < 0:=O
 have cc:(0:Int)≤(i:Int):=O
 obtain⟨n,ar⟩:∃n,x.zC.length=n:=⟨_,rfl⟩
 rw[ar] at hv
 have ca:(i:Int) < (n:Int):=O
 have bp:x.zg.length≤1099511627776:=vr
 have zf:(rise bs).length≤1099511627776:=Ol (xG _) hbl
 have hwa:=fun W (hb:Od w w W)=>Ye W g q x (h.later hb) bp bs _ Sb (hr.below hb) hbl
 rw[hw] at hwa
 have cf:((nb:Int)==0)=false:=zT
 have ad:∀W,Od w w W→W.cell? (Y g 11)=some (RO (some (Y b c)) n bo)∧∀j,j < 8→W.cell? (Y b (c+i * 8+j))=(xV m0)[j]?:=fun W hb=>⟨gF,fun j hj=>(hb.cell ac).trans (a j hj).1⟩
 have ag:∀W,Od w w W→NN W [] 2 m0.mv m0.p.zr.length (zU yC m0.p.zr):=fun W hb=>(u.mem.below hb).sub (fun _ _ _ hm=>by cases hm)
 rw[A] at hwa
 rw[A]
 obtain⟨ns,Q⟩:∃ns,(rise bs).length=ns:=⟨_,rfl⟩
 rw[Q] at hwa zf
 have bm:=V hwa
 have bh:=V ad
 have bk:=V ag
 have Bf:=V ae
 have y8:=V al
 have bi:=V hfr
 have bj:=V hlf
 have jo:=V Q
 clear hwa ad ag ae al hfr hlf Q hpl hw hr hv a u hm0 am h hf hne A ar br
 go_enter func36,ntmps36
 go_upto_region 11 with(first
  |(go_at_call 87;refine P.mono ?_;rintro e w1 ⟨rfl,L⟩;have b8:=bm.o w1 L;have bb:=V L;clear P L)
  |(go_at_call 70;refine b8.mono ?_;rintro e w2 ⟨v2,h2,rfl,R,au,hb2⟩;obtain⟨A2,c2,rfl,_,_⟩:=R.form;have jq:=V R;have c4:=V au;have ay:=V (zj bb.o hb2);clear b8 R au hb2)
  |fail)
 obtain⟨d,hwa⟩:∃d:Oc,d=w2.alloc (.cells #[RO A2 ns c2] 35):=⟨_,rfl⟩
 rw[←hwa]
 obtain⟨F,hC⟩:∃F,F=w2.heap.size:=⟨_,rfl⟩
 rw[←hC]
 have dC:d.cell? (Y F 0)=some (RO A2 ns c2):=gG
 have z:Od w w d:=gH
 have a':Sl d 3 1 (RO A2 ns c2) h2 ns ((rise bs).map yJ):=gI
 obtain⟨b',a⟩:=bh.o d z
 have b0:d.cell? (Y b (c+i * 8))=some (I m0.p.id):=a 0 O
 have b1:d.cell? (Y b (c+i * 8+1))=some (I m0.p.thread):=a 1 O
 have b2:d.cell? (Y b (c+i * 8+2))=some (RP ⟨m0.p.text.toArray⟩):=a 2 O
 have b3:d.cell? (Y b (c+i * 8+3))=some (I m0.p.at_):=a 3 O
 have b4:d.cell? (Y b (c+i * 8+4))=some (RO U m0.p.keys.length a2):=(a 4 O).trans aY
 have b5:d.cell? (Y b (c+i * 8+5))=some (RO X m0.p.zr.length a3):=(a 5 O).trans V4
 have b6:d.cell? (Y b (c+i * 8+6))=some (I m0.p.mod):=a 6 O
 have b7:d.cell? (Y b (c+i * 8+7))=some (I m0.p.born):=a 7 O
 have b9:=Yf d m0.p.id m0.p.thread m0.p.at_ m0.p.mod m0.p.born ⟨m0.p.text.toArray⟩ (RO U m0.p.keys.length a2) (RO X m0.p.zr.length a3) m0.p.zr (by
  have h1:=bk.o d z
  rw[y8.o] at h1
  exact h1) O
 have bd:=V z
 have rq:=V a'
 have a0:=V dC
 clear a hwa hC z a' dC
 go_upto_region 12 with(first
  |(go_at_call 90;refine b9.mono ?_;rintro e w3 ⟨v3,h3,rfl,S,av,a7⟩;obtain⟨A3,c3,rfl,_,_⟩:=S.form;have bl:=V S;have c6:=V av;have bn:=V a7;clear b9 S av a7)
  |fail)
 clear b0 b1 b2 b3 b4 b5 b6 b7 b'
 obtain⟨B,qz⟩:∃B,m0.p.zr.length=B:=⟨_,rfl⟩
 have og:Z ((x9 m0.p.zr).length=B):=V gA
 obtain⟨E,r9⟩:∃E:Oc,E=w3.alloc (.cells #[RO A3 m0.p.zr.length c3] 35):=⟨_,rfl⟩
 rw[←r9]
 obtain⟨D,hD⟩:∃D,D=w3.heap.size:=⟨_,rfl⟩
 rw[←hD]
 have ak:Od d d E:=gJ
 have dD:E.cell? (Y D 0)=some (RO A3 B c3):=gK
 have dC:E.cell? (Y F 0)=some (RO A2 ns c2):=(ak.cell (p:=⟨F,0,none⟩) (OH _ _ a0.o)).trans a0.o
 have v:Sl E 3 1 (RO A2 ns c2) h2 (rise bs).length ((rise bs).map yJ):=gL
 have J:Sl E 3 1 (RO A3 B c3) h3 (x9 m0.p.zr).length ((x9 m0.p.zr).map yJ):=by
  rw[og.o,r9,←qz]
  exact bl.o.alloc _
 have M:=ut E (RO A2 ns c2) (rise bs) [] (v.reads [] zv) Z0
 rw[jo.o] at M
 have Cr:B≤1099511627776:=O
 have be:=V (zj bd.o ak)
 have H:=V v
 have r:=V J
 have K:=V dD
 have G:=V dC
 clear r9 hD ak v J dD qz
 go_upto_region 13 with(first
  |(go_at_call 92;refine M.mono ?_;rintro e w4 ⟨v4,h4,rfl,Ct,a8,aw⟩;have N:=rY (w0:=E) (w4:=w4) (v4:=v4) (h4:=h4) (l:=rise bs) (k:=x9 m0.p.zr) 93 (O9 func93 zQ rfl) (fun y W hB hr hn=>Xg y D _ _ W hB hr hn) K.o r.o Z1 gC Z0 a8 aw;rw[bi.o] at N;clear M Ct aw a8)
  |(go_at_call 91;refine N.mono ?_;rintro e T ⟨A5,n5,c5,h5,rfl,an,bw,bu,a9⟩;have ao:n5=0:=an;subst ao;have f:=V a9;clear N bw bu a9 an)
  |fail)
 have c8:T.cell? (Y D 0)=some (RO A3 B c3):=(f.o.cell (p:=⟨D,0,none⟩) (OH _ _ K.o)).trans K.o
 have a4:T.cell? (Y F 0)=some (RO A2 ns c2):=(f.o.cell (p:=⟨F,0,none⟩) (OH _ _ G.o)).trans G.o
 have a5:Sl T 3 1 (RO A2 ns c2) h2 (rise bs).length ((rise bs).map yJ):=H.o.keep (fun b2 hb2=>f.o.block b2 (H.o.lt b2 hb2))
 have a6:Sl T 3 1 (RO A3 B c3) h3 (x9 m0.p.zr).length ((x9 m0.p.zr).map yJ):=r.o.keep (fun b2 hb2=>f.o.block b2 (r.o.lt b2 hb2))
 have s:=ut T (RO A3 B c3) (x9 m0.p.zr) [] (a6.reads [] zv) Z1
 rw[og.o] at s
 have a1:=V a4
 have ba:=V a5
 clear a4 a5 a6
 go_upto_region 14 with(first
  |(go_at_call 92;refine s.mono ?_;rintro e w6 ⟨v6,h6,rfl,Cs,aa,az⟩;have t:=rY (w0:=T) (w4:=w6) (v4:=v6) (h4:=h6) (l:=x9 m0.p.zr) (k:=rise bs) 95 (O9 func95 zQ rfl) (fun y W hB hr hn=>Xh y F _ _ W hB hr hn) a1.o ba.o Z0 gD Z1 aa az;rw[bj.o] at t;clear s Cs az aa)
  |(go_at_call 91;refine t.mono ?_;rintro e w7 ⟨A7,n7,c7,h7,rfl,ap,bx,bv,ab⟩;have aq:n7=0:=ap;subst aq;have bc:=V ab;clear t bx bv ab ap)
  |fail)
 go_wp2_with fail
 go_ret
 exact⟨rfl,(zj (zj be.o f.o) (zj bc.o (zt _ _)))⟩
end
end Go.Proofs.YtnofkliaofgiaaaGreatDoor
