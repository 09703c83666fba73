/-
  The walk of the reference's Log.Add. The reference's account in memory: as the program's (XStoreAt, XStoreMem), with another struct and another log. Printed by gen_refat.py. The walk of the reference's Atom. The walk of pillarboxref17.Entries: are two lists one?
-/
import Derived.Test.YtnofkliaofgiaaaGreatDoorGA
import Derived.Test.YtnofkliaofgiaaaGreatDoorGD
import Derived.Test.YtnofkliaofgiaaaGreatDoorGB
import Derived.Laws.StructEq
set_option maxRecDepth 100000
set_option maxHeartbeats 8000000
open Go.Proofs.Tryz
open Exists renaming intro→OA
open Go renaming TypeId→Pa,Value→Oe,World→Oc
open Go.ByteArray renaming toList_eq→Pu
open Go.Ending renaming returned→RR
open Go.IntKind renaming i64→Ov
open Go.IntWalk renaming i64_in→Og
open Go.RowKit renaming Below→Od
open Go.RowKit.Below renaming heap_setCell→P3,refl→Ok
open Go.Value renaming pointer→RQ,slice→RO
open Go.World renaming cell?_alloc_past→Pw,cell?_of_block→PU,frozen?_alloc_past→Pn
open List renaming drop_eq_getElem_cons→O7,eq_nil_of_length_eq_zero→Oi,getElem?_eq_getElem→Ot,getElem?_eq_some_iff→OX,getElem?_map→O5,length_append→Oo,length_cons→OT,length_drop→O8,length_map→Ow,length_set→Pd,length_singleton→Pf,map_append→OQ,mem_append→OO,mem_cons→OB,mem_cons_of_mem→OP,mem_singleton→OI,take_of_length_le→Ou
open Nat renaming add_assoc→O1,le_refl→Oq,le_trans→Ol,lt_of_lt_of_le→OJ,zero_le→OE
open Option renaming mem_toList→Pe
open Option.some renaming inj→O6
open UInt8 renaming ofNat→OW
open _root_ renaming ByteArray→Oy,List→Ob,Option→OC,UInt8→Oz,decide_eq_false→OD,decide_eq_true→OS,if_neg→Om,if_pos→OG
namespace Go.Proofs.YtnofkliaofgiaaaGreatDoor
section
open Go.RowKit
attribute [local go_sem ↓] Go.wp_at_zero Go.wp_at_succ
def Z2 (w:Oc)(g:Nat)(h:OC Nat)(x:Vq):Prop:=
 ∃v,NG w g 164 #[I x.most,v,I x.floor]∧Sl w 159 4 v h x.es.length (yR x.es)
theorem Z2.N4 {w w':Oc}{g:Nat}{h:OC Nat}{x:Vq}{S:Ob Nat}(hl:Z2 w g h x)(hc:NH S w w')(hg:g∉S)(hh:∀b,h=some b→b∉S):Z2 w' g h x:=by
 obtain⟨v,a,c⟩:=hl
 exact⟨v,a.N4 hc hg,c.N4 hc hh⟩
theorem Z2.heap {w w':Oc}{g:Nat}{h:OC Nat}{x:Vq}(hl:Z2 w g h x)(he:w'.heap=w.heap):Z2 w' g h x:=by
 obtain⟨v,a,b⟩:=hl
 exact⟨v,a.heap he,b.heap he⟩
structure dU (w:Oc)(g:Nat)(h:OC Nat)(x:Vq)(e:Ob E4)(k:Nat)(es:Ob E4)(h':OC Nat)(wr:Oc):Prop where
 loop:vD x.es e=vD es (e.drop k)
 len:es.length≤x.es.length+k
 some_:k=0∨es≠[]
 log:Z2 wr g h' ⟨x.most,es,x.floor⟩
 N4:NH (g :: h.toList) w wr
 own:h'=h∨∃k,h'=some k∧w.heap.size≤k
theorem kA {w wr W1 w2:Oc}{g:Nat}{h h' h2:OC Nat}{x:Vq}{e es:Ob E4}{k:Nat}{y:E4}{A' A2:OC Addr}{n m cap' cap2:Nat}{o:Obj}(hu:dU w g h x e k es h' wr)(hk:k < e.length)(hy:e[k]=y)(hno:¬∃z∈es.getLast?,y.m < z.m)(q2:NG W1 g 164 #[I x.most,RO A' n cap',I x.floor])(q1:Sl W1 159 4 (RO A' n cap') h' n (yR es))(q4:NH (g :: h.toList) w W1)(hs2:Sl w2 159 4 (RO A2 m cap2) h2 (n+1) (yR es++(#[I y.m,I y.k,I y.i,I y.h]:Array Oe).toList))(hc2:NH h'.toList (W1.alloc o).drew w2)(ho2:h2=h'∨∃g,h2=some g∧(W1.alloc o).drew.heap.size≤g) :
  dU w g h x e (k+1) (es++[y]) h2 (w2.setCell (Y g 1) (RO A2 m cap2)):=by
 have p:(W1.alloc o).drew.heap.size=W1.heap.size+1:=zv
 have f:g∉h'.toList:=fun c=>by
  simp at c
  exact q1.vu q2 zD g c rfl
 have r:w.heap.size≤W1.heap.size:=q4.size
 have a:NG w2 g 164 #[I x.most,RO A' n cap',I x.floor]:=((q2.alloc o).heap rfl:NG (W1.alloc o).drew g _ _).N4 hc2 f
 have d:yR es++(#[I y.m,I y.k,I y.i,I y.h]:Array Oe).toList=yR (es++[y]):=by rw[vB];rfl
 rw[d] at hs2
 have Eu:h2≠some g:=by
  intro j
  exact hs2.vu a zD g j rfl
 have l:n=es.length:=by have:=q1.1;rw[ZK] at this;omega
 have c:m=n+1:=by
  obtain⟨s,t,q,_⟩:=hs2.form
  injection q
 subst c
 subst l
 have b:NH (g :: h.toList) w w2:=by
  exact Nj
 refine⟨?_,?_,.inr zv,⟨_,a.set 1 _,?_⟩,b.set (.inl zv) _,?_⟩
 ·rw[hu.loop,O7 hk,hy,vD,Om hno]
 ·exact IB
 ·exact FE
 ·exact ID
def KJ (es:Ob E4)(fl:Int)(j:Nat):Int:=if j=0 then fl else (es[j - 1]?.getD default).m
theorem my (x:Vq)(e es:Ob E4)(j:Nat)(hF:vD x.es e=es)(hj:(j:Int)≤max 0 ((es.length:Int) - x.most))(hstop:(es.length:Int) - j≤x.most):x.add e=⟨x.most,es.drop j,KJ es x.floor j⟩:=by
 unfold Vq.add
 rw[hF]
 by_cases h:(es.length:Int) - x.most > 0
 ·have b:((es.length:Int) - x.most).toNat=j:=O
  rw[OG h,b]
  unfold KJ
  rw[Om O]
 ·have a:j=0:=O
  subst a
  rw[Om h]
  rfl
structure VE (w:Oc)(g:Nat)(h:OC Nat)(x:Vq)(es:Ob E4)(j:Nat)(h':OC Nat)(wr:Oc):Prop where
 log:Z2 wr g h' ⟨x.most,es.drop j,KJ es x.floor j⟩
 N4:NH (g :: h.toList) w wr
 own:h'=h∨∃k,h'=some k∧w.heap.size≤k
def jI (w:Oc)(g:Nat):Nat:=match w.cell? (Y g 1) with
 |some (RO _ n _)=>n
 |_=>0
theorem Z2.jI {w:Oc}{g:Nat}{h:OC Nat}{x:Vq}(hl:Z2 w g h x):jI w g=x.es.length:=by
 obtain⟨v,c,d⟩:=hl
 obtain⟨A,a,rfl,_,_⟩:=d.form
 have b:w.cell? (Y g 1)=some (RO A x.es.length a):=c.cell 1
 unfold Proofs.YtnofkliaofgiaaaGreatDoor.jI
 rw[b]
theorem VE.heap {w wr w':Oc}{g:Nat}{h h':OC Nat}{x:Vq}{es:Ob E4}{j:Nat}(q:VE w g h x es j h' wr)(n:Nat)(e:w'=wr.drewN n):VE w g h x es j h' w':=by
 subst e
 exact⟨q.log.heap rfl,q.N4.drewN n,q.own⟩
theorem DY {w wr w2:Oc}{g:Nat}{h h' h2:OC Nat}{x:Vq}{es:Ob E4}{j M:Nat}{A2:OC Addr}{n m cap2:Nat}{v:Oe}{o:Obj}{z:Int}(hu:VE w g h x es j h' wr)(hj:j < es.length)(hz:es[j].m=z)(hM:x.most=(M:Int))(q2:NG wr g 164 #[I M,v,I (KJ es x.floor j)])(hn:n=es.length - (j+1))(hs2:Sl w2 159 4 (RO A2 m cap2) h2 n (yR (es.drop (j+1))))(hfr:∃b,h2=some b∧wr.heap.size≤b)(hc2:NH [wr.heap.size] ((wr.setCell (Y g 2) (I z)).alloc o) w2) :
  VE w g h x es (j+1) h2 (w2.setCell (Y g 1) (RO A2 m cap2)):=by
 have r:g < wr.heap.size:=q2.lt
 have q:=hu.N4.size
 have a:NG w2 g 164 #[I M,v,I z]:=((q2.set 2 (I z)).alloc o).N4 hc2 zT
 have d:h2≠some g:=fun hh=>hs2.vu a zD g hh rfl
 have e:KJ es x.floor (j+1)=z:=by
  unfold KJ
  rw[Om O]
  simp[hj,hz]
 have c:(es.drop (j+1)).length=n:=by rw[O8,hn]
 refine⟨⟨RO A2 m cap2,?_,?_⟩,?_,?_⟩
 ·rw[e,hM]
  exact a.set 1 _
 ·simp only[c]
  exact hs2.far (p:=⟨g,1,none⟩) d _
 ·have f:NH (g :: h.toList) w ((wr.setCell (Y g 2) (I z)).alloc o):=(hu.N4.set (p:=⟨g,2,none⟩) (.inl zv) _).alloc o
  exact(f.trans hc2 (fun i hi=>by simp at hi;subst hi;exact .inr q)).set (p:=⟨g,1,none⟩) (.inl zv) _
 ·obtain⟨b,k,l⟩:=hfr
  exact .inr ⟨b,k,O⟩
theorem tV (w:Oc)(g:Nat)(h:OC Nat)(x:Vq)(A:OC Addr)(cap:Nat)(e:Ob E4)(hl:Z2 w g h x)(hm1:1≤x.most)(hm2:x.most≤1099511627776)(hn1:x.es.length≤1099511627776)(hn2:e.length≤1099511627776)(hr:RdE w A (g :: h.toList) e) :
  C 117 #[Y g 0,RO A e.length cap] w fun e' w'=>e'=RR (.tuple #[])∧
   ∃h',Z2 w' g h' (x.add e)∧NH (g :: h.toList) w w'∧(h'=h∨∃k,h'=some k∧w.heap.size≤k):=by
 obtain⟨i0,hi,ae,ag,al⟩:=info_parts Try.infoEntry
 have R:dU w g h x e 0 x.es h w:=⟨rfl,O,.inl rfl,hl,NH.refl _ _,.inl rfl⟩
 have HS:=V R
 clear R hl
 have HR:=V hr
 clear hr
 obtain⟨L,hL⟩:∃L,e.length=L:=⟨_,rfl⟩
 rw[hL]
 rw[hL] at hn2
 have HL:=V hL
 clear hL
 go_enter func117,ntmps117
 go_upto_block 0 with(fail)
 go_cut [] (fun wx=>∃(es:Ob E4) (h':OC Nat),Z (vD x.es e=es)∧Z (Z2 wx g h' ⟨x.most,es,x.floor⟩∧NH (g :: h.toList) w wx∧(h'=h∨∃k,h'=some k∧w.heap.size≤k))∧es.length≤2199023255552)
 case first=>
  go_wp2_with fail
  go_loopw [4] (fun i wr=>∃(k:Nat) (es:Ob E4) (h':OC Nat),k≤L∧i=I k∧Z (dU w g h x e k es h' wr)) (fun i _=>L - (intOf i).toNat)
  case atStart=>exact⟨0,_,_,OE _,rfl,HS⟩
  case round=>
   obtain⟨k,es,h',hk,rfl,HU⟩:=hrel
   by_cases bd:k < L
   ·have hke:k < e.length:=by rw[HL.o];exact bd
    obtain⟨b,d,rfl,a2,b6,T⟩:=HR.o (by rintro rfl;simp at hke)
    have X:∀j,j < e.length * 4→wr.cell? (Y b (d+j))=(yR e)[j]?:=fun j hj=>(HU.o.N4.cell (p:=⟨b,d+j,none⟩) a2 b6).trans (T j hj)
    obtain⟨f0,f1,f2,f3⟩:=Qk e k hke
    have d0:wr.cell? (Y b (d+k * 4))=some (I e[k].m):=(X (k * 4) O).trans f0
    have d1:wr.cell? (Y b (d+k * 4+1))=some (I e[k].k):=(X (k * 4+1) O).trans f1
    have d2:wr.cell? (Y b (d+k * 4+2))=some (I e[k].i):=(X (k * 4+2) O).trans f2
    have d3:wr.cell? (Y b (d+k * 4+3))=some (I e[k].h):=(X (k * 4+3) O).trans f3
    clear X T f0 f1 f2 f3
    obtain⟨v,P,s⟩:=HU.o.log
    obtain⟨A',c,rfl,S,b7⟩:=s.form
    have c1:wr.cell? (Y g 1)=some (RO A' es.length c):=P.cell 1
    have ba:g < wr.heap.size:=P.lt
    have a5:b < wr.heap.size:=OJ a2 HU.o.N4.size
    generalize he:e[k]=y at d0 d1 d2 d3
    have HE:=V he
    clear he
    have HB:=V P
    have G:=V s
    have aa:es.length≤2199023255552:=fR
    clear P s
    by_cases hz:es.length=0
    ·have av:es=[]:=Oi hz
     have bb:k=0:=by
      rcases HU.o.some_ with h1|h1
      ·exact h1
      ·exact absurd av h1
     subst av
     subst bb
     simp only[List.length_nil] at c1 S aa
     have G:Z (Sl wr 159 4 (RO A' 0 c) h' 0 (yR [])):=G
     have HB:Z (NG wr g 164 #[I x.most,RO A' 0 c,I x.floor]):=HB
     have ac:¬∃z∈([]:Ob E4).getLast?,y.m < z.m:=zv
     clear hz
     simp only[Nat.zero_mul,Nat.add_zero] at d0 d1 d2 d3
     go_wp2_with fail
     go_quiet (fail)
     go_wp2_with fail
     have q1:Sl (wr.drewN nq) 159 4 (RO A' (0) c) h' (0) (yR []):=G.o.heap rfl
     have H:NG (wr.drewN nq) g 164 #[I x.most,RO A' (0) c,I x.floor]:=HB.o.heap rfl
     have q4:NH (g :: h.toList) w (wr.drewN nq):=HU.o.N4.drewN _
     have k0:(wr.drewN nq).cell? (Y b d)=some (I y.m):=d0
     have k1:(wr.drewN nq).cell? (Y b (d+1))=some (I y.k):=d1
     have k2:(wr.drewN nq).cell? (Y b (d+2))=some (I y.i):=d2
     have k3:(wr.drewN nq).cell? (Y b (d+3))=some (I y.h):=d3
     have Q:b < (wr.drewN nq).heap.size:=a5
     generalize wr.drewN nq=W1 at q1 H q4 k0 k1 k2 k3 Q ⊢
     clear d0 d1 d2 d3
     have e1:W1.cell? (Y g 1)=some (RO A' (0) c):=H.cell 1
     have e2:W1.frozen? (Y g 1)=false:=H.frozen 1
     have t:g < W1.heap.size:=H.lt
     have U:g∉h'.toList:=fun hm=>by
      simp at hm
      exact q1.vu H zD g hm rfl
     go_region_law (refine ye _ zF (.tmp 68) (.tmp 73) _ zF underlying156 hi ae ag al rfl O ((q1.alloc _).heap zF) uE W1.heap.size #[I y.m,I y.k,I y.i,I y.h] (e':=159) (fr:=(0,0)) (heap_alloc_new W1 _) 1 1 uE zF xt yV O ?_;intro v2 h2 w2 r f F;obtain⟨A2,K,rfl,_,_⟩:=r.form;have b8:w2.frozen? (Y g 1)=false:=(f.frozen (p:=⟨g,1,none⟩) zT U).trans ((Pn _ _ _ t).trans e2);have b9:w2.cell? (Y g 1)=some (RO A' (0) c):=(f.cell (p:=⟨g,1,none⟩) zT U).trans ((Pw _ _ _ t).trans e1))
     all_goals
      have hrel:=kA HU.o hke HE.o ac H q1 q4 r f F
      have D:=V hrel
      clear hrel r f F
      go_wp2
      refine⟨?_,by simp[intOf];try omega⟩
      first|exact⟨0+1,_,_,O,zE,D⟩|((repeat apply OA);exact⟨⟨0+1,_,_,O,zE,D⟩,rfl⟩)
    ·obtain⟨vo,z,rfl⟩:∃vo z,es=vo++[z]:=⟨es.dropLast,es.getLast (by rintro rfl;simp at hz),(List.dropLast_concat_getLast _).symm⟩
     have hN:(vo++[z]).length=vo.length+1:=zv
     rw[hN] at c1 S aa HB G
     obtain⟨ab,E,bj,bs,ad,_,_,Q,aj⟩:=G.o.at_ O
     injection ad with hva1 hva2 hva3
     subst hva1
     subst hva3
     clear hva2
     have bi:wr.cell? (Y ab (E+vo.length * 4))=some (I z.m):=by
      exact FU
     clear aj
     have Ev:(vo++[z]).getLast?=some z:=zv
     generalize ap:vo.length=N at c1 S aa HB G bi
     have b3:=V ap
     clear ap hN hz
     have bw:Ov.wrap ((N:Int)+1 - 1)=(N:Int):=IP
     have bx:Ov.wrap (N:Int)=(N:Int):=Og _ O
     have bu:(N:Int) < (N:Int)+1:=O
     have bk:(0:Int)≤(N:Int):=O
     have bm:((N:Int)+1==0)=false:=by
      rw[beq_eq_false_iff_ne]
      omega
     by_cases Ew:y.m < z.m
     ·have l:vD x.es e=vo++[z]:=by
       exact G2
      have HF:=V l
      have hd:decide (y.m < z.m)=true:=by simpa using Ew
      clear l
      go_wp2_with fail
      go_quiet (fail)
      go_wp2_with fail
      go_meet
      exact⟨_,h',HF,⟨HU.o.log.heap rfl,HU.o.N4.drewN _,HU.o.own⟩,by simp[b3.o];omega⟩
     ·have ac:¬∃u∈(vo++[z]).getLast?,y.m < u.m:=by
       rw[Ev]
       simpa using Ew
      have hd:decide (y.m < z.m)=false:=by simpa using Ew
      go_wp2_with fail
      go_quiet (fail)
      go_wp2_with fail
      have q1:Sl (wr.drewN nq) 159 4 (RO (some (Y ab E)) (N+1) c) h' (N+1) (yR (vo++[z])):=G.o.heap rfl
      have H:NG (wr.drewN nq) g 164 #[I x.most,RO (some (Y ab E)) (N+1) c,I x.floor]:=HB.o.heap rfl
      have q4:NH (g :: h.toList) w (wr.drewN nq):=HU.o.N4.drewN _
      have k0:(wr.drewN nq).cell? (Y b (d+k * 4))=some (I y.m):=d0
      have k1:(wr.drewN nq).cell? (Y b (d+k * 4+1))=some (I y.k):=d1
      have k2:(wr.drewN nq).cell? (Y b (d+k * 4+2))=some (I y.i):=d2
      have k3:(wr.drewN nq).cell? (Y b (d+k * 4+3))=some (I y.h):=d3
      have Q:b < (wr.drewN nq).heap.size:=a5
      generalize wr.drewN nq=W1 at q1 H q4 k0 k1 k2 k3 Q ⊢
      clear d0 d1 d2 d3
      have e1:W1.cell? (Y g 1)=some (RO (some (Y ab E)) (N+1) c):=H.cell 1
      have e2:W1.frozen? (Y g 1)=false:=H.frozen 1
      have t:g < W1.heap.size:=H.lt
      have U:g∉h'.toList:=fun hm=>by
       simp at hm
       exact q1.vu H zD g hm rfl
      go_region_law (refine ye _ zF (.tmp 68) (.tmp 73) _ zF underlying156 hi ae ag al rfl O ((q1.alloc _).heap zF) uE W1.heap.size #[I y.m,I y.k,I y.i,I y.h] (e':=159) (fr:=(0,0)) (heap_alloc_new W1 _) 1 1 uE zF xt yV O ?_;intro v2 h2 w2 r f F;obtain⟨A2,K,rfl,_,_⟩:=r.form;have b8:w2.frozen? (Y g 1)=false:=(f.frozen (p:=⟨g,1,none⟩) zT U).trans ((Pn _ _ _ t).trans e2);have b9:w2.cell? (Y g 1)=some (RO (some (Y ab E)) (N+1) c):=(f.cell (p:=⟨g,1,none⟩) zT U).trans ((Pw _ _ _ t).trans e1))
      all_goals
       have hrel:=kA HU.o hke HE.o ac H q1 q4 r f F
       have D:=V hrel
       clear hrel r f F
       go_wp2
       refine⟨?_,by simp[intOf];try omega⟩
       first|exact⟨k+1,_,_,O,zE,D⟩|((repeat apply OA);exact⟨⟨k+1,_,_,O,zE,D⟩,rfl⟩)
   ·have bc:k=L:=O
    subst bc
    have l:vD x.es e=es:=by
     rw[HU.o.loop,List.drop_of_length_le (by rw[HL.o];exact Oq _)]
     rfl
    have HF:=V l
    clear l
    go_wp2_with fail
    go_meet
    exact⟨_,h',HF,⟨HU.o.log,HU.o.N4,HU.o.own⟩,fR⟩
 case rest=>
  obtain⟨es,h',HF,HG,bl⟩:=hcut
  obtain⟨M,hM⟩:∃M:Nat,x.most=(M:Int):=⟨x.most.toNat,O⟩
  have az:VE w g h x es 0 h' wc:=⟨by simpa[KJ] using HG.o.1,HG.o.2.1,HG.o.2.2⟩
  have b4:=V az
  have a1:=V hM
  have bo:1≤M:=O
  clear HR HS HL az HG hm1 hm2 hM
  go_wp2_with fail
  go_loopw [] (fun wr=>∃(j:Nat) (h':OC Nat),j≤es.length - M∧Z (VE w g h x es j h' wr)) (fun wr=>jI wr g)
  case atStart=>exact⟨0,h',OE _,b4⟩
  case round=>
   obtain⟨j,h2,hj,HU⟩:=hrel
   obtain⟨v,P,s⟩:=HU.o.log
   obtain⟨A',c,rfl,S,b7⟩:=s.form
   have au:(es.drop j).length=es.length - j:=zv
   simp only[au,a1.o] at P s S
   have b0:=V (HU.o.log.jI.trans au)
   obtain⟨n,hn⟩:∃n,es.length - j=n:=⟨_,rfl⟩
   rw[hn] at P s S
   have c0:wr.cell? (Y g 0)=some (I (M:Int)):=P.cell 0
   have c1:wr.cell? (Y g 1)=some (RO A' n c):=P.cell 1
   have ba:g < wr.heap.size:=P.lt
   by_cases aw:M < n
   ·have hd:decide ((M:Int) < (n:Int))=true:=by simpa using aw
    have a9:j < es.length:=O
    obtain⟨b,d,K,hh,ad,_,_,a2,aj⟩:=s.at_ O
    injection ad with hva1 hva2 hva3
    subst hva1
    subst hva3
    clear hva2
    have d0:wr.cell? (Y b d)=some (I es[j].m):=by
     have h1:=(aj 0 O).1
     rw[Nat.add_zero] at h1
     rw[h1,O7 a9]
     rfl
    have a0:∀i u,(yR (es.drop (j+1)))[i]?=some u→wr.cell? (Y b (d+4+i))=some u:=fun i u hu=>by
     have bt:i < (n - 1) * 4:=by
      have h1:=(OX.1 hu).1
      rw[ZK,O8] at h1
      omega
     have h1:=(aj (4+i) O).1
     rw[←O1] at h1
     rw[h1,O7 a9,YS,List.getElem?_append_right (by simp[lU])]
     simpa[lU] using hu
    have H:=(P.heap (w':=wr) rfl)
    have HB:=V P
    have a7:=V a0
    clear aj a0 P s H
    have hz:es[j].m=es[j].m:=rfl
    generalize a':es[j].m=z at d0
    have HZ:=V a'
    clear hz a'
    have aq:¬b=g:=fun e=>by
     obtain⟨v3,b5,bh⟩:=HU.o.log
     exact bh.vu b5 zD b hh e
    have br:¬g=b:=fun e=>aq e.symm
    have hm1:0 < n:=O
    have bp:(1:Int)≤(n:Int):=O
    have a6:n - 1=es.length - (j+1):=O
    have bv:n - 1≤2199023255552:=O
    have W:(yR (es.drop (j+1))).length=(n - 1) * 4:=by rw[ZK,O8];omega
    have b2:=V W
    have an:=V a6
    clear W a6
    go_wp2_with fail
    go_quiet (fail)
    have ao:=V (HU.o.heap nq rfl)
    have B:Z (NG (wr.drewN nq) g 164 #[I (M:Int),RO (some (Y b d)) n c,I (KJ es x.floor j)]):=V (HB.o.heap rfl)
    have J:Z (∀i u,(yR (es.drop (j+1)))[i]?=some u→(wr.drewN nq).cell? (Y b (d+4+i))=some u):=a7
    have d1:(wr.drewN nq).cell? (Y b d)=some (I z):=d0
    have a4:b < (wr.drewN nq).heap.size:=a2
    generalize wr.drewN nq=W1 at ao B J d1 a4 ⊢
    clear d0 c0 c1
    have e0:W1.cell? (Y g 0)=some (I (M:Int)):=B.o.cell 0
    have e1:W1.cell? (Y g 1)=some (RO (some (Y b d)) n c):=B.o.cell 1
    have e2:W1.cell? (Y g 2)=some (I (KJ es x.floor j)):=B.o.cell 2
    have e3:W1.frozen? (Y g 1)=false:=B.o.frozen 1
    have e4:W1.frozen? (Y g 2)=false:=B.o.frozen 2
    have t:g < W1.heap.size:=B.o.lt
    go_wp2_with (at_builtin;refine xH _ rfl _ _ 156 rfl underlying156 hi ae ag al rfl zD (ZB (W1.setCell (Y g 2) (I z)) 159 4) ?_ (Y b (d+4)) (n - 1) (c - 1) (yR (es.drop (j+1))) ?_ b2.o ?_ (BB _) ?_ ?_ ?_)
    ·simp[Act.eval]
    ·simp[Act.eval]
    ·intro i u hu
     have ar:((W1.setCell (Y g 2) (I z)).alloc (.cells #[] 159)).heap[b]?=W1.heap[b]?:=
      (Below.heap_alloc _ _ b (by simpa[World.setCell] using a4)).trans (P3 W1 _ _ b aq)
     rw[Addr.add_lit]
     exact(PU (a:=⟨b,d+4+i,none⟩) ar).trans (J.o i u hu)
    ·unfold maxLen
     omega
    ·omega
    ·intro v2 h3 w2 r f F
     obtain⟨A2,K,rfl,_,_⟩:=r.form
     have a8:=((B.o.set 2 (I z)).alloc (.cells #[] 159)).N4 f zT
     have f1:w2.cell? (Y g 1)=some (RO (some (Y b d)) n c):=a8.cell 1
     have f2:w2.frozen? (Y g 1)=false:=a8.frozen 1
     have q:=DY ao.o a9 HZ.o a1.o B.o an.o r (by
      rcases F with h4|⟨k,h4,h5⟩
      ·exact⟨_,h4,Oq _⟩
      ·exact⟨k,h4,O⟩) f
     have HQ:=V q
     have b1:=V (q.log.jI)
     clear q a8 r f F
     go_wp2
     have be:jI (w2.setCell (Y g 1) (RO A2 (n - 1) K)) g < jI wr g:=by
      rw[b1.o,b0.o]
      simp only[O8]
      omega
     refine⟨?_,be⟩
     first|exact⟨j+1,_,O,HQ⟩|((repeat apply OA);exact⟨⟨j+1,_,O,HQ⟩,rfl⟩)
   ·have hd:decide ((M:Int) < (n:Int))=false:=by simpa using aw
    have a3:=my x e es j HF.o (by rw[a1.o];omega) (by rw[a1.o];omega)
    have am:=V a3
    clear a3 P s
    go_wp2_with fail
    go_quiet (fail)
    go_wp2
    go_end0
    refine⟨rfl,h2,?_,HU.o.N4.drewN _,HU.o.own⟩
    rw[am.o]
    exact HU.o.log.heap rfl
end
section
open Go.RowKit
def Vt (q:zW)(x:Acc):Ob Oe:=LJ x.N3++[I x.zA,q.vb,q.vm,RQ (some (Y q.gl 0)),I x.zS,I x.zN]
structure zJ (w:Oc)(g:Nat)(q:zW)(x:Acc):Prop where
 blk:NG w g 123 (Vt q x).toArray
 log:Z2 w q.gl q.hl x.log
 zg:Sl w 73 6 q.vb q.hb x.zg.length (zU uZ x.zg)
 same:q.ms.map (·.p)=x.zC
 zC:Sl w 83 8 q.vm q.hm x.zC.length (zU xV q.ms)
 parts:∀m∈q.ms,xB w (q.own g) m
section
variable {w w':Oc} {g:Nat} {q:zW} {x:Acc} {S T:Ob Nat} {m:xd}
theorem zJ.lt (h:zJ w g q x):∀k∈q.own g,k < w.heap.size:=by
 exact MM
theorem zJ.later (h:zJ w g q x)(hb:Od w w w'):zJ w' g q x:=by
 exact MR
theorem zJ.heap (h:zJ w g q x)(he:w'.heap=w.heap)(e1:w'.os=w.os)(e2:w'.tape=w.tape)(e3:w'.output=w.output):zJ w' g q x:=
 h.later ⟨e1,e2,e3,by rw[he];exact Oq _,fun k _=>by rw[he]⟩
theorem zJ.alloc (h:zJ w g q x)(o:Obj):zJ (w.alloc o) g q x:=h.later ((Ok _ w).alloc (Oq _) o)
theorem zJ.drewN (h:zJ w g q x)(n:Nat):zJ (w.drewN n) g q x:=h.heap rfl rfl rfl rfl
theorem zJ.cells (h:zJ w g q x)(j:Nat):w.cell? (Y g j)=(Vt q x)[j]?:=by
 rw[h.blk.cell]
 simp
theorem zJ.vF (h:zJ w g q x):w.cell? (Y g 9)=some (I x.zA):=h.cells 9
theorem zJ.yZ (h:zJ w g q x):w.cell? (Y g 10)=some q.vb:=h.cells 10
theorem zJ.xj (h:zJ w g q x):w.cell? (Y g 11)=some q.vm:=h.cells 11
theorem zJ.xp (h:zJ w g q x):w.cell? (Y g 12)=some (RQ (some (Y q.gl 0))):=h.cells 12
theorem zJ.Vs (h:zJ w g q x):w.cell? (Y g 13)=some (I x.zS):=h.cells 13
theorem zJ.JS (h:zJ w g q x):w.cell? (Y g 14)=some (I x.zN):=h.cells 14
theorem zJ.frozen (h:zJ w g q x)(j:Nat):w.frozen? (Y g j)=false:=h.blk.frozen j
end
structure zK (w w':Oc)(g:Nat)(q:zW)(x':Acc)(q':zW):Prop where
 at_:zJ w' g q' x'
 N4:NH (q.own g) w w'
 own:∀k∈q'.own g,k∈q.own g∨w.heap.size≤k
section
variable {w w' w'':Oc} {g:Nat} {q q' q'':zW} {x x' x'':Acc}
theorem zK.refl (h:zJ w g q x):zK w w g q x q:=⟨h,NH.refl _ _,fun _ h=>.inl h⟩
theorem zK.of_below (h:zJ w g q x)(hb:Od w w w'):zK w w' g q x q:=⟨h.later hb,NH.of_below hb _,fun _ h=>.inl h⟩
theorem zK.trans (h:zK w w' g q x' q')(k:zK w' w'' g q' x'' q''):zK w w'' g q x'' q'':=
 ⟨k.at_,h.N4.trans k.N4 h.own,fun i hi=>by
  rcases k.own i hi with h1|h1
  ·exact h.own i h1
  ·exact .inr (Ol h.N4.size h1)⟩
end
structure YQ (w wr:Oc)(g:Nat)(q:zW)(x:Acc):Prop where
 at_:zJ wr g q x
 below:Od w w wr
 own:∀k∈q.own g,w.heap.size≤k
section
variable {w wr w':Oc} {g:Nat} {q q':zW} {x x':Acc}
theorem YQ.later (h:YQ w wr g q x)(hb:Od wr wr w'):YQ w w' g q x:=⟨h.at_.later hb,h.below.trans (hb.mono h.below.size),h.own⟩
theorem YQ.turned (h:YQ w wr g q x)(k:zK wr w' g q x' q'):YQ w w' g q' x':=
 ⟨k.at_,h.below.trans (k.N4.below h.below.size h.own),fun i hi=>by
  rcases k.own i hi with h1|h1
  ·exact h.own i h1
  ·exact Ol h.below.size h1⟩
end
section
variable {w w':Oc} {g:Nat} {q q':zW} {x x':Acc}
theorem zJ.apart (h:zJ w g q x):Apart g q:=by
 exact Mh
theorem zJ.vn (h:zJ w g q x)(j:Nat)(u:Oe)(x':Acc)(hcells:Vt q x'=(Vt q x).set j u)(hb:x'.zg=x.zg)(hm:x'.zC=x.zC)(hl:x'.log=x.log):zK w (w.setCell (Y g j) u) g q x' q:=by
 have ha:=h.apart
 have hc:NH [g] w (w.setCell (Y g j) u):=(NH.refl [g] w).set (.inl zv) u
 have a:NH (q.own g) w (w.setCell (Y g j) u):=hc.mono fun k hk=>by
  simp only[OI] at hk
  subst hk
  exact .inl zW.ZP
 refine⟨⟨?_,?_,?_,?_,?_,fun m hmm=>(h.parts m hmm).step a (fun k hk=>.inl hk)⟩,a,fun k hk=>.inl hk⟩
 ·have:=h.blk.set j u
  rw[show (Vt q x').toArray=(Vt q x).toArray.setIfInBounds j u from by rw[hcells];simp]
  exact this
 ·exact FD
 ·rw[hb]
  exact h.zg.far (p:=⟨g,j,none⟩) ha.hb u
 ·rw[hm]
  exact h.same
 ·rw[hm]
  exact h.zC.far (p:=⟨g,j,none⟩) ha.hm u
theorem zJ.vU (h:zJ w g q x){b off n cap:Nat}(hv:q.vb=RO (some (Y b off)) n cap)(i:Nat)(hi:i < x.zg.length)(j:Nat)(hj:j < 6)(u:Oe)(y:xA)(hy:uZ y=(uZ x.zg[i]).set j u) :
  zK w (w.setCell (Y b (off+i * 6+j)) u) g q {x with zg:=x.zg.set i y} q:=by
 exact L1
theorem zJ.DG (h:zJ w g q x){l:Vq}{hl':OC Nat}(hl:Z2 w' q.gl hl' l)(hc:NH (q.gl :: q.hl.toList) w w')(ho:hl'=q.hl∨∃k,hl'=some k∧w.heap.size≤k):zK w w' g q {x with log:=l} {q with hl:=hl'}:=by
 exact L6
theorem zJ.nL (h:zJ w g q x)(y:xA){v':Oe}{h':OC Nat}(hs:Sl w' 73 6 v' h' (x.zg.length+1) (zU uZ x.zg++uZ y))(hc:NH q.hb.toList w w')(ho:h'=q.hb∨∃k,h'=some k∧w.heap.size≤k) :
  zK w (w'.setCell (Y g 10) v') g q {x with zg:=x.zg++[y]} {q with hb:=h',vb:=v'}:=by
 exact zzm6q
theorem zJ.eN (h:zJ w g q x)(m:xd){v':Oe}{h':OC Nat}(hp:xB w (q.own g) m)(hs:Sl w' 83 8 v' h' (x.zC.length+1) (zU xV q.ms++xV m))(hc:NH q.hm.toList w w')(ho:h'=q.hm∨∃k,h'=some k∧w.heap.size≤k) :
  zK w (w'.setCell (Y g 11) v') g q {x with zC:=x.zC++[m.p]} {q with hm:=h',vm:=v',ms:=q.ms++[m]}:=by
 exact zzm5q
theorem zJ.Vn (h:zJ w g q x)(i:Nat)(hi:i < x.zg.length):∃b off cap,q.vb=RO (some (Y b off)) x.zg.length cap∧q.hb=some b∧x.zg.length≤cap∧cap≤maxLen∧b < w.heap.size∧
  ∀j,j < 6→w.cell? (Y b (off+i * 6+j))=(uZ x.zg[i])[j]?∧w.frozen? (Y b (off+i * 6+j))=false:=by
 exact MD
theorem zJ.XC (h:zJ w g q x):q.ms.length=x.zC.length:=by
 rw[←h.same,Ow]
theorem zJ.msAt (h:zJ w g q x)(i:Nat)(hi:i < x.zC.length)(hi2:i < q.ms.length):q.ms[i].p=x.zC[i]:=by
 exact Nr
theorem zJ.ud (h:zJ w g q x)(i:Nat)(hi:i < x.zC.length)(hi2:i < q.ms.length):∃b off cap,q.vm=RO (some (Y b off)) x.zC.length cap∧q.hm=some b∧x.zC.length≤cap∧cap≤maxLen∧b < w.heap.size∧
  ∀j,j < 8→w.cell? (Y b (off+i * 8+j))=(xV q.ms[i])[j]?∧w.frozen? (Y b (off+i * 8+j))=false:=by
 exact ME
theorem zJ.Ze (h:zJ w g q x){b off n cap:Nat}(hv:q.vm=RO (some (Y b off)) n cap)(i:Nat)(hi:i < x.zC.length)(hi2:i < q.ms.length)(j:Nat)(hj:j < 8)(u:Oe)(m:xd)(hm:xV m=(xV q.ms[i]).set j u)(hp:xB w (q.own g) m) :
  zK w (w.setCell (Y b (off+i * 8+j)) u) g q {x with zC:=x.zC.set i m.p} {q with ms:=q.ms.set i m}:=by
 exact zzm8q
theorem zJ.other (h:zJ w g q x){b:Nat}{e:Pa}{cs:Array Oe}(hB:NG w b e cs)(h1:e≠9)(h2:e≠153)(hb:b∉q.own g)(hc:NH [b] w w'):zJ w' g q x:=by
 have a:∀k∈q.own g,k∉[b]:=fun k hk hm=>hb (by rw[←OI.1 hm];exact hk)
 refine⟨h.blk.N4 hc (a g zW.ZP),h.log.N4 hc (a _ zW.J4) (fun k hk=>a k (zW.Yp hk)),h.zg.N4 hc (fun k hk=>a k (zW.Yo hk)),h.same,h.zC.N4 hc (fun k hk=>a k (zW.Z5 hk)),fun m hm=>?_⟩
 have c:=h.parts m hm
 have d:xB w (b :: q.own g) m:=⟨c.keys.other c.tk hB (fun e=>h1 e.symm),c.mem.other c.tm hB (fun e=>h2 e.symm),c.tk,c.tm⟩
 exact d.keep hc.size (fun k hk hn=>hc.block k hk (fun hm=>hn (by rw[OI.1 hm];simp))) (fun k _ hn hk=>hn (OP _ hk))
end
end
section
open Go.RowKit Go.Sort
attribute [local go_sem ↓] Go.wp_at_zero Go.wp_at_succ
theorem wZ:∀n,n < 256→Ui (OW n)=(decide (33≤n) && decide (n≤126) && !(n==40) && !(n==41) && !(n==123) && !(n==125) && !(n==37) && !(n==42) && !(n==34) && !(n==92) && !(n==93)):=by decide+kernel
theorem Kt (c:Oz):Ui c=(decide (33≤c.toNat) && decide (c.toNat≤126) && !(c.toNat==40) && !(c.toNat==41) && !(c.toNat==123) && !(c.toNat==125) && !(c.toNat==37) && !(c.toNat==42) && !(c.toNat==34) && !(c.toNat==92) && !(c.toNat==93)):=by
 have h:=wZ c.toNat c.toNat_lt
 rw[UInt8.ofNat_toNat] at h
 exact h
theorem QX (s:Oy)(w:Oc)(hs:s.size≤140737488351232) :
  C 81 #[.string s] w fun e w'=>e=RR (.bool (Y8 s.data.toList))∧w=w':=by
 obtain⟨b,d⟩:∃b,Y8 s.data.toList=b:=⟨_,rfl⟩
 rw[d]
 have dz:=V d
 clear d
 go_enter func81,ntmps81
 go_wp2_with fail
 go_loop [3] (fun i=>∃k:Nat,k≤s.size∧i=I k∧Z ((s.data.toList.take k).all Ui=true)) (fun i=>s.size - (intOf i).toNat)
 case atStart=>exact⟨0,OE _,rfl,rfl⟩
 case round=>
  obtain⟨k,hk,rfl,a⟩:=hrel
  by_cases j:k < s.size
  ·have H:=V a
   clear a
   have Ea:=V (fun h=>dz.o.symm.trans (mF s k j h))
   have Ii:=V (iD s k j H.o.o)
   have g:=Kt s[k]
   have mg:=V g
   clear g
   by_cases c0:(s[k].toNat:Int) < 33
   ·have hf:decide (33≤s[k].toNat)=false:=OD O
    exact FV
   ·have P:decide (33≤s[k].toNat)=true:=OS O
    have A:=V P
    clear P
    by_cases c1:126 < (s[k].toNat:Int)
    ·have hf:decide (s[k].toNat≤126)=false:=OD O
     exact FV
    ·have Q:decide (s[k].toNat≤126)=true:=OS O
     have B:=V Q
     clear Q
     by_cases m:s[k].toNat=40
     ·have hf:(s[k].toNat==40)=true:=by simpa using m
      have hn:b=false:=Ea.o YM
      subst hn
      have d2:((s[k].toNat:Int)==40)=true:=Xt
      clear Ea Ii mg hf dz m
      go_wp2_with fail
      go_ret
      exact⟨rfl,rfl⟩
     ·have R:(s[k].toNat==40)=false:=by simpa using m
      have d2:((s[k].toNat:Int)==40)=false:=Xu
      clear m
      have D:=V R
      clear R
      by_cases n:s[k].toNat=41
      ·have hf:(s[k].toNat==41)=true:=by simpa using n
       have hn:b=false:=Ea.o YM
       subst hn
       have d3:((s[k].toNat:Int)==41)=true:=Xt
       clear Ea Ii mg hf dz n
       go_wp2_with fail
       go_ret
       exact⟨rfl,rfl⟩
      ·have S:(s[k].toNat==41)=false:=by simpa using n
       have d3:((s[k].toNat:Int)==41)=false:=Xu
       clear n
       have E:=V S
       clear S
       by_cases p:s[k].toNat=123
       ·have hf:(s[k].toNat==123)=true:=by simpa using p
        have hn:b=false:=Ea.o YM
        subst hn
        have d4:((s[k].toNat:Int)==123)=true:=Xt
        clear Ea Ii mg hf dz p
        go_wp2_with fail
        go_ret
        exact⟨rfl,rfl⟩
       ·have T:(s[k].toNat==123)=false:=by simpa using p
        have d4:((s[k].toNat:Int)==123)=false:=Xu
        clear p
        have F:=V T
        clear T
        by_cases q:s[k].toNat=125
        ·have hf:(s[k].toNat==125)=true:=by simpa using q
         have hn:b=false:=Ea.o YM
         subst hn
         have d5:((s[k].toNat:Int)==125)=true:=Xt
         clear Ea Ii mg hf dz q
         go_wp2_with fail
         go_ret
         exact⟨rfl,rfl⟩
        ·have U:(s[k].toNat==125)=false:=by simpa using q
         have d5:((s[k].toNat:Int)==125)=false:=Xu
         clear q
         have G:=V U
         clear U
         by_cases r:s[k].toNat=37
         ·have hf:(s[k].toNat==37)=true:=by simpa using r
          have hn:b=false:=Ea.o YM
          subst hn
          have d6:((s[k].toNat:Int)==37)=true:=Xt
          clear Ea Ii mg hf dz r
          go_wp2_with fail
          go_ret
          exact⟨rfl,rfl⟩
         ·have W:(s[k].toNat==37)=false:=by simpa using r
          have d6:((s[k].toNat:Int)==37)=false:=Xu
          clear r
          have J:=V W
          clear W
          by_cases t:s[k].toNat=42
          ·have hf:(s[k].toNat==42)=true:=by simpa using t
           have hn:b=false:=Ea.o YM
           subst hn
           have d7:((s[k].toNat:Int)==42)=true:=Xt
           clear Ea Ii mg hf dz t
           go_wp2_with fail
           go_ret
           exact⟨rfl,rfl⟩
          ·have X:(s[k].toNat==42)=false:=by simpa using t
           have d7:((s[k].toNat:Int)==42)=false:=Xu
           clear t
           have K:=V X
           clear X
           by_cases u:s[k].toNat=34
           ·have hf:(s[k].toNat==34)=true:=by simpa using u
            have hn:b=false:=Ea.o YM
            subst hn
            have d8:((s[k].toNat:Int)==34)=true:=Xt
            clear Ea Ii mg hf dz u
            go_wp2_with fail
            go_ret
            exact⟨rfl,rfl⟩
           ·have p8:(s[k].toNat==34)=false:=by simpa using u
            have d8:((s[k].toNat:Int)==34)=false:=Xu
            clear u
            have L:=V p8
            clear p8
            by_cases v:s[k].toNat=92
            ·have hf:(s[k].toNat==92)=true:=by simpa using v
             have hn:b=false:=Ea.o YM
             subst hn
             have d9:((s[k].toNat:Int)==92)=true:=Xt
             clear Ea Ii mg hf dz v
             go_wp2_with fail
             go_ret
             exact⟨rfl,rfl⟩
            ·have p9:(s[k].toNat==92)=false:=by simpa using v
             have d9:((s[k].toNat:Int)==92)=false:=Xu
             clear v
             have M:=V p9
             clear p9
             by_cases c:s[k].toNat=93
             ·have hf:(s[k].toNat==93)=true:=by simpa using c
              have hn:b=false:=Ea.o YM
              subst hn
              have y:((s[k].toNat:Int)==93)=true:=Xt
              clear Ea Ii mg hf dz c
              go_wp2_with fail
              go_ret
              exact⟨rfl,rfl⟩
             ·have l:(s[k].toNat==93)=false:=by simpa using c
              have y:((s[k].toNat:Int)==93)=false:=Xu
              clear c
              have f:=V l
              clear l
              have HY:=V (Ii.o (by rw[mg.o,A.o,B.o,D.o,E.o,F.o,G.o,J.o,K.o,L.o,M.o,f.o];rfl))
              clear Ea Ii mg A B D E F G J K L M f
              go_wp2_with fail
              go_round
              case rel=>exact⟨k+1,O,zE,HY⟩
              case measure=>simp[intOf];omega
  ·have z:k=s.size:=O
   subst z
   have d:b=!s.data.toList.isEmpty:=by
    rw[←dz.o]
    unfold Y8
    have N:=a
    rw[Ou (by rw[jJ];exact Oq _)] at N
    rw[N.o]
    simp
   have x:=V d
   clear d a
   go_wp2_with fail
   go_ret
   exact⟨xy (by rw[x.o,←Pu]),rfl⟩
end
section
open Go.RowKit
attribute [local go_sem ↓] Go.wp_at_zero Go.wp_at_succ
end
end Go.Proofs.YtnofkliaofgiaaaGreatDoor
