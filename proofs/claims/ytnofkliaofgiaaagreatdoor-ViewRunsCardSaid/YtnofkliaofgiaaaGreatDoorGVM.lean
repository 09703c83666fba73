/-
  The walk of the reference's there; the reference's view in memory.
-/
import Derived.Test.YtnofkliaofgiaaaGreatDoorGVG
import Derived.Test.YtnofkliaofgiaaaGreatDoorGVA
import Derived.Test.YtnofkliaofgiaaaGreatDoorGRS
import Derived.Test.YtnofkliaofgiaaaGreatDoorGRK
import Derived.Test.YtnofkliaofgiaaaGreatDoorGVC
import Derived.Test.YtnofkliaofgiaaaGreatDoorGRQ
import Derived.Deep.RegionHeld3
set_option maxRecDepth 100000
set_option maxHeartbeats 8000000
open Go.Proofs.Tryz
open Bool renaming and_eq_true→PP
open Exists renaming intro→OA
open Go renaming TypeId→Pa,Value→Oe,World→Oc
open Go.Ending renaming returned→RR
open Go.IntKind renaming i64→Ov
open Go.IntWalk renaming i64_in→Og
open Go.RowKit renaming Below→Od
open Go.RowKit.Below renaming refl→Ok
open Go.Value renaming pointer→RQ,slice→RO,string→RP
open Go.Value.slice renaming inj→OM,injEq→PH
open Int renaming le_refl→Py
open List renaming append_assoc→O4,filterMap_append→RG,find?_cons_of_neg→Pb,find?_cons_of_pos→PN,foldl_cons→Pm,getElem?_eq_getElem→Ot,getElem_mem→Oj,getElem_of_mem→Pg,getElem_set_self→Ph,getElem_take→RB,length_append→Oo,length_cons→OT,length_drop→O8,length_map→Ow,length_set→Pd,length_singleton→Pf,length_take→OU,map_append→OQ,map_cons→OY,mem_append→OO,mem_cons→OB,mem_cons_of_mem→OP,mem_cons_self→PV,mem_filter→OZ,mem_map→OL,mem_map_of_mem→OV,mem_of_find?_eq_some→O2,mem_singleton→OI,nodup_append→P6,nodup_cons→P8,pairwise_cons→Pc,pairwise_iff_getElem→PF,pairwise_map→P0,take_of_length_le→Ou,take_succ_eq_append_getElem→Oh
open List.Pairwise renaming nil→Rz
open Nat renaming add_assoc→O1,le_refl→Oq,le_trans→Ol,zero_le→OE
open Option.some renaming inj→O6,injEq→Pk
open _root_ renaming List→Ob,Option→OC,if_neg→Om,if_pos→OG
namespace Go.Proofs.YtnofkliaofgiaaaGreatDoor
section
open Go.Shelf Go.RowKit
attribute [local go_sem ↓] Go.wp_at_zero Go.wp_at_succ
theorem Try.infoSeen:(prog.info? 126).map (fun i=>(i.zero,i.size,i.bytes))=some (some (.agg #[I 0,I 0,I 0]),3,24):=zQ
structure ThR (w wr:Oc)(x:Acc)(box:Int)(o:Oe)(k:Nat)(ys:Ob NL)(h:OC Nat):Prop where
 below:Od w w wr
 sl:Sl wr 126 3 o h ys.length (zU vG ys)
 own:∀b,h=some b→w.heap.size≤b
 p:NR x box k ys
theorem ThR.later {w wr w':Oc}{x:Acc}{box:Int}{o:Oe}{k:Nat}{ys:Ob NL}{h:OC Nat}(hr:ThR w wr x box o k ys h)(hb:Od wr wr w'):ThR w w' x box o k ys h:=
 ⟨zj hr.below hb,hr.sl.keep (fun b h=>hb.block b (hr.sl.lt b h)),hr.own,hr.p⟩
def ThO (w wr:Oc)(x:Acc)(box:Int)(k:Nat)(o:Oe):Prop:=∃(A:OC Addr) (c m:Nat) (ys:Ob NL) (h:OC Nat),o=RO A m c∧ys.length=m∧ThR w wr x box (RO A m c) k ys h
structure ShR (w wr:Oc)(o:Oe)(b2:Nat)(n:Nat)(ys:Ob NL)(r:Nat):Prop where
 below:Od w w wr
 ex:∃z,Sl wr 126 3 o (some b2) n (zU vG (ys.take r++z :: ys.drop r))
theorem dL (w:Oc)(g:Nat)(q:zW)(x:Acc)(hst:zJ w g q x)(hV:NW x)(box:Int) :
  C 56 #[Y g 0,I box] w fun e w'=>∃A c hh,e=RR (RO A (N9 x box).length c)∧Sl w' 126 3 (RO A (N9 x box).length c) hh (N9 x box).length (zU vG ((N9 x box).map Ua))∧(∀b,hh=some b→w.heap.size≤b)∧Od w w w':=by
 obtain⟨i0,hi,bm,bo,bp⟩:=info_parts Try.infoSeen
 have aq:=hst.XC
 have ao:=hst.blk.lt
 have D:=hst.xj
 obtain⟨Am,cm,a7,_,_⟩:=hst.zC.form
 rw[a7] at D
 obtain⟨n,a3⟩:∃n,x.zC.length=n:=⟨_,rfl⟩
 have c3:n≤4294967296:=by
  exact pn
 rw[a3] at D aq
 have ae:Z (ThO w w x box 0 (RO none 0 0)):=V ⟨none,0,0,[],none,rfl,rfl,Ok _ _,Sl.nil _ _ _,fun b hb=>(by cases hb),rD x box⟩
 have HW:=V hst
 have HV:=V hV
 have ai:=V a3
 have b5:=V a7
 have U:=V ao
 have Q:=V D
 clear hst hV a3 a7 D ao
 go_enter func56,ntmps56
 go_wp2
 go_loopw [5,6] (fun o iv wr=>∃k:Nat,k≤n∧iv=I k∧Z (ThO w wr x box k o)) (fun _ iv _=>n - (intOf iv).toNat)
 case atStart=>exact⟨0,OE _,rfl,ae⟩
 case round=>
  clear ae
  obtain⟨k,hk,rfl,HO⟩:=hrel
  obtain⟨A1,c1,m,ys,h,rfl,hm,hu⟩:=HO.o
  have HM:=V hm
  have v:=V hu
  clear HO hm hu
  have D:wr.cell? (Y g 11)=some (RO Am n cm):=(v.o.below.cell U.o).trans Q.o
  by_cases af:k < n
  ·have bv:(k:Int) < (n:Int):=O
   have c0:(0:Int)≤(k:Int):=O
   have b':Ov.wrap ((k:Int)+1)=(k:Int)+1:=Og _ O
   have a1:k < q.ms.length:=O
   have E:k < x.zC.length:=vN
   obtain⟨b,l,b7,hv,_,_,_,G,F⟩:=HW.o.ud k E a1
   have a6:=hv.symm.trans b5.o
   injection a6 with hv3 _ N
   subst hv3 N
   obtain⟨d,ar⟩:∃d,q.ms[k]=d:=⟨_,rfl⟩
   have uz:=(HW.o.parts q.ms[k] (Oj a1))
   have H:=HW.o.msAt k E a1
   have be:=HV.o.fit.mail x.zC[k] (Oj E)
   have av:=HV.o.fit.lW (Oj E)
   rw[ar] at F uz H
   rw[←H] at av
   have R:∀W,Od w w W→W.cell? (Y g 11)=some (RO (some (Y b l)) n b7)∧W.cell? (Y b (l+k * 8))=some (I d.p.id)∧W.cell? (Y b (l+k * 8+6))=some (I d.p.mod):=fun W hb=>
    ⟨(hb.cell U.o).trans Q.o,(hb.cell G).trans (F 0 O).1,(hb.cell G).trans (F 6 O).1⟩
   have t:∀j,j < 8→wr.cell? (Y b (l+k * 8+j))=(xV d)[j]?:=fun j hj=>(v.o.below.cell G).trans (F j hj).1
   have e0:wr.cell? (Y b (l+k * 8))=some (I d.p.id):=t 0 O
   have e1:wr.cell? (Y b (l+k * 8+1))=some (I d.p.thread):=t 1 O
   have e2:wr.cell? (Y b (l+k * 8+2))=some (RP ⟨d.p.text.toArray⟩):=t 2 O
   have e3:wr.cell? (Y b (l+k * 8+3))=some (I d.p.at_):=t 3 O
   have e4:wr.cell? (Y b (l+k * 8+4))=some d.kv:=t 4 O
   have e5:wr.cell? (Y b (l+k * 8+5))=some d.mv:=t 5 O
   have e6:wr.cell? (Y b (l+k * 8+6))=some (I d.p.mod):=t 6 O
   have e7:wr.cell? (Y b (l+k * 8+7))=some (I d.p.born):=t 7 O
   obtain⟨Ak,ck,ap,_,_⟩:=uz.keys.form
   obtain⟨Av,cv,au,_,_⟩:=uz.mem.form
   obtain⟨u,hu⟩:∃u,yY d.p.zr box=u:=⟨_,rfl⟩
   have K:=Vh wr d.p.id d.p.thread d.p.at_ d.p.mod d.p.born ⟨d.p.text.toArray⟩ d.kv d.mv d.p.zr box (uz.mem.keep (T:=[]) v.o.below.size (fun b h _=>v.o.below.block b h) (fun _ _ _ h=>by cases h)) O
   rw[ap] at e4 K
   rw[au] at e5 K
   rw[hu] at K
   have aa:=V R
   have Hr:=V K
   have B:Z (yY x.zC[k].zr box=u∧x.zC[k]=d.p):=V ⟨by rw[←H];exact hu,H.symm⟩
   clear F uz H be av R t K ar ap au hu
   by_cases Ep:u=0
   ·subst Ep
    have kr:∀W,Od wr wr W→Z (ThO w W x box (k+1) (RO A1 m c1)):=fun W hb=>V ⟨A1,c1,m,ys,h,rfl,HM.o,zj v.o.below hb,(v.o.later hb).sl,v.o.own,v.o.p.skip E B.o.1⟩
    exact MK
   ·have c7:(u==0)=false:=JI
    have c2:m≤k:=by
     have:=v.o.p.len
     have:=HM.o
     omega
    go_upto_block 2 with(first
     |(go_at_call 54;refine Hr.o.mono ?_;rintro e w2 ⟨rfl,hb2⟩;have M:=V (v.o.later hb2);clear hb2)
     |fail)
    clear Hr v e0 e1 e2 e3 e4 e5 e6 e7 D
    go_cut [8] (fun a wx=>∃p:Nat,p≤m∧a=I p∧Z (∀i (hi:i < ys.length),p≤i→u < ys[i].uid)∧Z (∀(h0:0 < p) (hp:p - 1 < ys.length),ys[p - 1].uid≤u)∧Z (wx=w2))
    case first=>
     go_wp2_with fail
     go_loop [8] (fun a=>∃p:Nat,p≤m∧a=I p∧Z (∀i (hi:i < ys.length),p≤i→u < ys[i].uid)) (fun a=>(intOf a).toNat)
     case atStart=>exact⟨m,Oq _,rfl,V (fun i hi hp=>absurd hi Xv)⟩
     case round=>
      obtain⟨p,hp,rfl,HP⟩:=hrel
      by_cases h0:0 < p
      ·have bj:(0:Int) < (p:Int):=O
       have bi:p - 1 < ys.length:=Xv
       obtain⟨b1,o1,bw,Ht,hv1,_,_,_,kg⟩:=M.o.sl.at_ Xv
       have a6:=(OM hv1).1
       subst a6
       have hs:=M.o.sl
       rw[HM.o] at hs
       obtain⟨y0,_⟩:=hs.seenAt (p - 1) bi
       exact Ma
      ·exact M8
    case rest=>
     obtain⟨p,hp,rfl,HP,HL,ag⟩:=hcut
     obtain⟨w3,rfl⟩:∃w3:Oc,w3=wc:=⟨_,rfl⟩
     have Hw:Z (ThR w w3 x box (RO A1 m c1) k ys h):=V (by rw[ag.o];exact M.o)
     have ac:Z (NR x box (k+1) (ys.take p++⟨u,d.p.id,d.p.mod⟩ :: ys.drop p)):=V (by
      have h1:=Hw.o.p.ins HV.o E (by rw[B.o.1];exact Ep) (p:=p) JE (fun i hi hpi=>by rw[B.o.1];exact HP.o i hi hpi) (fun h0=>by rw[B.o.1];exact HL.o h0 Xv)
      rw[B.o.1,B.o.2] at h1
      exact h1)
     have a5:=Hw.o.sl
     rw[HM.o] at a5
     have ad:=V a5
     clear HP HL ag M a5
     go_upto_region 11 with(first
      |(at_builtin;refine yc rfl _ _ 56 rfl underlying56 hi bm bo bp rfl zD ad.o rfl 1 1 rfl rfl xt yV O ?_;intro v4 h4 w4 a4 an aw;have X:=V a4;have ab:=V an;have Hu:=V aw;obtain⟨A4,c4,rfl,_,_⟩:=a4.form;clear a4 an aw)
      |fail)
     obtain⟨b4,L,bx,b9,N,_,_,bt,_⟩:=X.o.at_ O
     have bl:=(OM N).1
     subst bl b9
     have b0:=Hw.o.below.size
     have am:w.heap.size≤b4:=by
      exact Ha
     have b3:Z (Od w w w4):=V (Hw.o.below.trans (ab.o.below b0 fun k hk=>Hw.o.own k yi))
     have a0:Z (ShR w w4 (RO (some (Y b4 L)) (m+1) c4) b4 (m+1) ys m):=V ⟨b3.o,⟨0,0,0⟩,by
      rw[Ou YP,List.drop_of_length_le YP,ZL]
      exact X.o⟩
     have s:=V am
     have b8:g < w.heap.size:=U.o
     have bb:Ov.wrap ((m:Int)+1 - 1)=(m:Int):=by
      exact po
     have bc:((m+1:Nat):Int) - 1=(m:Int):=O
     have bd:Ov.wrap (m:Int)=(m:Int):=Og _ O
     clear ad ab Hu X N b0 am b8
     go_upto_block 4 with(fail)
     clear bb bc bd
     go_cut [] (fun wx=>Z (ShR w wx (RO (some (Y b4 L)) (m+1) c4) b4 (m+1) ys p))
     case first=>
      go_wp2_with fail
      go_loopw [9] (fun a wr=>∃r:Nat,p≤r∧r≤m∧a=I r∧Z (ShR w wr (RO (some (Y b4 L)) (m+1) c4) b4 (m+1) ys r)) (fun a _=>(intOf a).toNat)
      case atStart=>exact⟨m,hp,Oq _,zE,a0⟩
      case round=>
       clear a0
       obtain⟨r,c6,bk,rfl,HT⟩:=hrel
       by_cases bu:p < r
       ·obtain⟨z,hst⟩:=HT.o.ex
        have az:0 < r:=O
        have a':r≤ys.length:=by rw[HM.o];exact bk
        have Hq:(ys.take r++z :: ys.drop r).length=m+1:=by
         exact Jq
        obtain⟨y0,y1,y2,_⟩:=hst.seenAt (r - 1) Zi
        obtain⟨x0,x1,x2,P⟩:=hst.seenAt r Zi
        have yj:(ys.take r++z :: ys.drop r)[r - 1]?=some (ys[r - 1]' O):=Q6 ys r az a' z
        have S:(ys.take r++z :: ys.drop r)[r - 1]' Zi=ys[r - 1]' O:=by
         exact IG
        rw[S] at y0 y1 y2
        obtain⟨y,hy⟩:∃y,ys[r - 1]' O=y:=⟨_,rfl⟩
        have J:=Jf ys r az a' z
        have f:=hst.LX r Zi y
        rw[←hy,J,hy] at f
        rw[hy] at y0 y1 y2
        have a9:=P 0
        have br:=P 1
        have bs:=P 2
        rw[Nat.add_zero] at a9
        have HZ:Z (ShR w (((wr.setCell (Y b4 (L+r * 3)) (I y.uid)).setCell (Y b4 (L+r * 3+1)) (I y.id)).setCell (Y b4 (L+r * 3+2)) (I y.told)) (RO (some (Y b4 L)) (m+1) c4) b4 (m+1) ys (r - 1)):=V ⟨((HT.o.below.setCell s.o _).setCell s.o _).setCell s.o _,y,by rw[←hy];rw[←hy] at f;exact f⟩
        have i2:0≤(r:Int) - 1:=O
        have i3:((r:Int) - 1).toNat=r - 1:=O
        have i4:((r - 1:Nat):Int)=(r:Int) - 1:=O
        have oq:=V i4
        generalize (ys.take r++z :: ys.drop r)[r]' Zi=zz at x0 x1 x2
        clear hst yj S J f i4 Hq P hy
        exact Nl
       ·exact GR
     case rest=>
      have HT:=hcut
      clear hcut a0
      obtain⟨w5,rfl⟩:∃w5:Oc,w5=wc:=⟨_,rfl⟩
      obtain⟨z,hst⟩:=HT.o.ex
      have bh:p≤ys.length:=JE
      have Hq:(ys.take p++z :: ys.drop p).length=m+1:=by
       exact Jq
      obtain⟨x0,x1,x2,P⟩:=hst.seenAt p Zi
      have a9:=P 0
      have br:=P 1
      have bs:=P 2
      rw[Nat.add_zero] at a9
      have f:=(hst.heap (w':=w5.drew) rfl).LX p Zi ⟨u,d.p.id,d.p.mod⟩
      rw[Je ys p bh z] at f
      simp only at f
      have a2:(ys.take p++(⟨u,d.p.id,d.p.mod⟩:NL) :: ys.drop p).length=m+1:=by
       exact Jq
      have HZ:Z (ThO w (((w5.drew.setCell (Y b4 (L+p * 3)) (I u)).setCell (Y b4 (L+p * 3+1)) (I d.p.id)).setCell (Y b4 (L+p * 3+2)) (I d.p.mod)) x box (k+1) (RO (some (Y b4 L)) (m+1) c4)):=V ⟨_,_,_,ys.take p++⟨u,d.p.id,d.p.mod⟩ :: ys.drop p,some b4,rfl,a2,(((zj HT.o.below (zG w5)).setCell s.o _).setCell s.o _).setCell s.o _,by rw[a2];exact f,fun b hb=>by injection hb with hb;rw[←hb];exact s.o,ac.o⟩
      obtain⟨bz,d0,d6⟩:=aa.o _ HT.o.below
      generalize (ys.take p++z :: ys.drop p)[p]' Zi=zz at x0 x1 x2
      have bj:(0:Int)≤(p:Int):=O
      have c5:(p:Int) < (m:Int)+1:=O
      clear hst f Hq a2 P
      go_upto_region 15 with(fail)
      go_still_tail 21,zQ
      change wpList _ _ _ _ _ w5.drew
      exact E0
  ·have ba:k=n:=O
   subst ba
   have a8:ys=(N9 x box).map Ua:=NR.all (by rw[ai.o];exact v.o.p) HV.o
   have b2:m=(N9 x box).length:=by rw[←HM.o,a8,Ow]
   have b6:=V a8
   have al:=V b2
   clear a8 b2
   go_wp2_with fail
   go_ret
   exact⟨A1,c1,h,by rw[al.o];rfl,by rw[←al.o,←b6.o];have h1:=v.o.sl;rw[HM.o] at h1;exact h1,v.o.own,v.o.below⟩
structure NM where
 h:OC Nat
 vl:Oe
def NM.own (q:NM)(g:Nat):Ob Nat:=g :: q.h.toList
structure XF (w:Oc)(g:Nat)(q:NM)(v:yI):Prop where
 blk:NG w g 58 #[I v.box,q.vl,I v.had]
 sl:Sl w 126 3 q.vl q.h v.l.length (zU vG v.l)
structure yM (w w':Oc)(g:Nat)(q:NM)(v':yI)(q':NM):Prop where
 at_:XF w' g q' v'
 N4:NH (q.own g) w w'
 own:∀k∈q'.own g,k∈q.own g∨w.heap.size≤k
section
variable {w w' w'':Oc} {g:Nat} {q q' q'':NM} {v v' v'':yI} {S:Ob Nat}
theorem NM.ZP:g∈q.own g:=PV ..
theorem NM.Lg {k:Nat}(h:q.h=some k):k∈q.own g:=by simp[NM.own,h]
theorem XF.lt (h:XF w g q v){k:Nat}(hk:k∈q.own g):k < w.heap.size:=by
 rcases OB.1 hk with rfl|h1
 ·exact h.blk.lt
 ·exact h.sl.lt k xv
theorem XF.N4 (h:XF w g q v)(hc:NH S w w')(hS:∀k∈q.own g,k∉S):XF w' g q v:=
 ⟨h.blk.N4 hc (hS g (PV ..)),h.sl.N4 hc (fun b hb=>hS b (NM.Lg hb))⟩
theorem XF.later (h:XF w g q v)(hb:Od w w w'):XF w' g q v:=h.N4 (NH.of_below hb []) zv
theorem yM.of_below (h:XF w g q v)(hb:Od w w w'):yM w w' g q v q:=⟨h.later hb,NH.of_below hb _,fun _ h=>.inl h⟩
theorem yM.trans (h:yM w w' g q v' q')(k:yM w' w'' g q' v'' q''):yM w w'' g q v'' q'':=
 ⟨k.at_,h.N4.trans k.N4 h.own,fun i hi=>by
  rcases k.own i hi with h1|h1
  ·exact h.own i h1
  ·exact .inr (Ol h.N4.size h1)⟩
theorem yM.then (h:yM w w' g q v' q')(hb:Od w' w' w''):yM w w'' g q v' q':=h.trans (yM.of_below h.at_ hb)
theorem yM.below {B:Nat}(h:yM w w' g q v' q')(hB:B≤w.heap.size)(ho:∀k∈q.own g,B≤k):Od B w w':=h.N4.below hB ho
theorem XF.fD (h:XF w g q v){vl:Oe}{hh:OC Nat}{l:Ob NL}(hs:Sl w' 126 3 vl hh l.length (zU vG l))(hc:NH q.h.toList w w')(ho:hh=q.h∨∃k,hh=some k∧w.heap.size≤k) :
  yM w (w'.setCell (Y g 1) vl) g q {v with l:=l} ⟨hh,vl⟩:=by
 have a:q.h≠some g:=fun e=>h.sl.vu h.blk zD g e rfl
 have c:hh≠some g:=fun e=>by
  rcases ho with h1|⟨k,h1,b⟩
  ·exact a (h1 ▸ e)
  ·rw[h1] at e
   obtain rfl:=O6 e
   have:=h.blk.lt
   omega
 refine⟨⟨(h.blk.N4 hc (fun hm=>a yT)).set 1 vl,hs.far (p:=⟨g,1,none⟩) c _⟩,(hc.mono (T:=q.own g) fun k hk=>.inl (NM.Lg yi)).set (p:=⟨g,1,none⟩) (.inl NM.ZP) vl,fun k hk=>?_⟩
 rcases OB.1 hk with rfl|h1
 ·exact .inl (PV ..)
 ·have b:hh=some k:=xv
  rcases ho with h3|⟨k2,h3,h4⟩
  ·exact .inl (NM.Lg (h3 ▸ b))
  ·rw[h3] at b
   obtain rfl:=O6 b
   exact .inr h4
theorem XF.setTop (h:XF w g q v)(u:Int):yM w (w.setCell (Y g 2) (I u)) g q {v with had:=u} q:=
 ⟨⟨h.blk.set 2 _,h.sl.far (p:=⟨g,2,none⟩) (fun e=>h.sl.vu h.blk zD g e rfl) _⟩,(NH.refl (q.own g) w).set (p:=⟨g,2,none⟩) (.inl NM.ZP) _,fun k hk=>.inl hk⟩
end
def oN:xd:=⟨⟨0,0,[],0,[],[],0,0⟩,RO none 0 0,RO none 0 0⟩
section
variable {w W:Oc} {B:Nat} {t:Pa} {c0 c1 c2 c3 c4 c5 c6 c7:Oe}
def put8 (W:Oc)(B:Nat)(a0 a1 a2 a3 a4 a5 a6 a7:Oe):Oc:=(((((((W.setCell (Y B 0) a0).setCell (Y B 1) a1).setCell (Y B 2) a2).setCell (Y B 3) a3).setCell (Y B 4) a4).setCell (Y B 5) a5).setCell (Y B 6) a6).setCell (Y B 7) a7
theorem blk8 (h:NG W B t #[c0,c1,c2,c3,c4,c5,c6,c7])(a0 a1 a2 a3 a4 a5 a6 a7:Oe):NG (put8 W B a0 a1 a2 a3 a4 a5 a6 a7) B t #[a0,a1,a2,a3,a4,a5,a6,a7]:=by
 unfold put8
 have a:=(((((((h.set 0 a0).set 1 a1).set 2 a2).set 3 a3).set 4 a4).set 5 a5).set 6 a6).set 7 a7
 simpa using a
theorem qq {b:Nat}(h:Od b w W)(hB:b≤B)(a0 a1 a2 a3 a4 a5 a6 a7:Oe):Od b w (put8 W B a0 a1 a2 a3 a4 a5 a6 a7):=
 (((((((h.setCell hB a0).setCell hB a1).setCell hB a2).setCell hB a3).setCell hB a4).setCell hB a5).setCell hB a6).setCell hB a7
theorem qB (h:NG W B t #[c0,c1,c2,c3,c4,c5,c6,c7]):(W.cell? (Y B 0)=some c0∧W.cell? (Y B 1)=some c1∧W.cell? (Y B 2)=some c2∧W.cell? (Y B 3)=some c3∧W.cell? (Y B 4)=some c4∧W.cell? (Y B 5)=some c5∧W.cell? (Y B 6)=some c6∧W.cell? (Y B 7)=some c7)∧
  W.frozen? (Y B 0)=false∧W.frozen? (Y B 1)=false∧W.frozen? (Y B 2)=false∧W.frozen? (Y B 3)=false∧W.frozen? (Y B 4)=false∧W.frozen? (Y B 5)=false∧W.frozen? (Y B 6)=false∧W.frozen? (Y B 7)=false:=
 ⟨⟨h.cell 0,h.cell 1,h.cell 2,h.cell 3,h.cell 4,h.cell 5,h.cell 6,h.cell 7⟩,h.frozen 0,h.frozen 1,h.frozen 2,h.frozen 3,h.frozen 4,h.frozen 5,h.frozen 6,h.frozen 7⟩
theorem Ql {tmps:Array Oe}{b:Bool}(h:NG W B 83 #[c0,c1,c2,c3,c4,c5,c6,c7])(h6:tmps[6]?.getD undef=RQ (some (Y B 0)))(h7:tmps[7]?.getD undef=.bool b):(results f66 tmps).run prog W=.ok (.tuple #[.agg #[c0,c1,c2,c3,c4,c5,c6,c7],.bool b]) W:=by
 obtain⟨⟨a,c,d,e,f,g,i,j⟩,_⟩:=qB h
 simp[results,Tryz.results66,go_sem,h6,h7,a,c,d,e,f,g,i,j]
end
def dV (w:Oc)(q:zW)(r:OC zR)(e:Ending)(w':Oc):Prop:=Od w w w'∧match r with
 |none=>e=RR (.tuple #[.agg (xV oN).toArray,.bool false])
 |some y=>∃m∈q.ms,m.p=y∧e=RR (.tuple #[.agg (xV m).toArray,.bool true])
theorem eY (w:Oc)(g:Nat)(q:zW)(x:Acc)(hst:zJ w g q x)(hf:Fit x)(gr:Nat)(qr:NM)(v:yI)(hv:XF w gr qr v)(k:Nat)(hk:k < v.l.length)(hn:v.l.length≤1099511627776) :
  C 66 #[Y gr 0,Y g 0,I k] w (dV w q (Yz x.zC v.box v.l[k])):=by
 have b4:x.zC.length≤1099511627776:=by
  have h1:=hf.nm
  have h2:=hf.zA
  have h3:=hf.N3.mod
  omega
 have av:=Xk w g q x v.l[k].id hst b4
 obtain⟨b,D,ab,_,ao,_,_,aw,_⟩:=hv.sl.at_ O
 have hs:=hv.sl
 rw[ao] at hs
 obtain⟨y0,y1,_,_⟩:=hs.seenAt k hk
 have c0:w.cell? (Y gr 0)=some (I v.box):=hv.blk.cell 0
 have c1:w.cell? (Y gr 1)=some qr.vl:=hv.blk.cell 1
 have a':=hv.blk.lt
 rw[ao] at c1
 have E:∀W,Od w w W→W.cell? (Y gr 0)=some (I v.box)∧W.cell? (Y gr 1)=some (RO (some (Y b D)) v.l.length ab)∧W.cell? (Y b (D+k * 3))=some (I v.l[k].uid)∧W.cell? (Y b (D+k * 3+1))=some (I v.l[k].id):=fun W hb=>⟨(hb.cell a').trans c0,(hb.cell a').trans c1,(hb.cell aw).trans y0,(hb.cell aw).trans y1⟩
 unfold Yz
 obtain⟨⟨mu,mi,mt⟩,hm⟩:∃m,v.l[k]=m:=⟨_,rfl⟩
 obtain⟨n,al⟩:∃n,v.l.length=n:=⟨_,rfl⟩
 obtain⟨bx,az⟩:∃bx,v.box=bx:=⟨_,rfl⟩
 rw[hm] at av ⊢
 simp only[hm,al,az] at E ⊢
 rw[al] at hk hn
 have be:(0:Int)≤(k:Int):=O
 have bi:(k:Int) < (n:Int):=O
 have bh:¬(n:Int)≤(k:Int):=O
 have ba:¬(k:Int) < 0:=O
 have H:=zt w (.cells #[I 0,I 0,RP ⟨#[]⟩,I 0,RO none 0 0,RO none 0 0,I 0,I 0] 83)
 have ac:=NG.new w 83 #[I 0,I 0,RP ⟨#[]⟩,I 0,RO none 0 0,RO none 0 0,I 0,I 0]
 have F:=Xk (w.alloc (.cells #[I 0,I 0,RP ⟨#[]⟩,I 0,RO none 0 0,RO none 0 0,I 0,I 0] 83)) g q x mi (hst.later H) b4
 obtain⟨w1,N⟩:∃w1:Oc,w1=w.alloc (.cells #[I 0,I 0,RP ⟨#[]⟩,I 0,RO none 0 0,RO none 0 0,I 0,I 0] 83):=⟨_,rfl⟩
 rw[←N] at H ac F
 obtain⟨d0,d1,d2,d3⟩:=E w1 H
 have G:=V H
 have a7:=V ac
 have ap:=V E
 obtain⟨R,hR⟩:∃R,Z4 mi x.zC=R:=⟨_,rfl⟩
 rw[hR] at F
 have aq:=V F
 clear av E c0 c1 y0 y1 hs ao hm al az F H ac
 cases hq:x.zC.find? (fun y=>decide (y.id=mi)) with
 |none=>
  have am:R= -1:=hR.symm.trans (XO hq)
  subst am
  clear hR hq
  go_enter func66,ntmps66
  go_upto_region 1 with(fail)
  rw[←N]
  clear N
  go_wp2_with (first
   |(go_at_call 134;refine aq.o.mono ?_;rintro e w2 ⟨rfl,rfl⟩)
   |fail)
  go_quiet (fail)
  obtain⟨⟨r0,r1,r2,r3,r4,r5,r6,r7⟩,f0,f1,f2,f3,f4,f5,f6,f7⟩:=qB a7.o
  go_wp2_with fail
  refine bodyPost_ret (v:=.tuple #[.agg (xV oN).toArray,.bool false]) ?_ rfl ⟨?_,rfl⟩
  ·exact Ql (blk8 (a7.o.heap rfl) _ _ _ _ _ _ _ _) rfl rfl
  ·exact qq (G.o.trans (zO (Ok _ _) _)) (Oq _) _ _ _ _ _ _ _ _
 |some y=>
  obtain⟨j,hj,b0,hy⟩:=Ja hq
  have am:R=(j:Int):=hR.symm.trans b0
  obtain⟨a,c,cm,m,b5,b8,ag,ae,U⟩:=hst.U8 j hj
  obtain⟨nm,X⟩:∃nm,x.zC.length=nm:=⟨_,rfl⟩
  have hp:=hst.parts m ag
  obtain⟨Ak,ck,L,_,_⟩:=hp.keys.form
  obtain⟨Av,cv,M,_,_⟩:=hp.mem.form
  have b3:=hf.lW (Oj hj)
  rw[←ae] at b3
  obtain⟨u,hu⟩:∃u,yY m.p.zr bx=u:=⟨_,rfl⟩
  have Q:=fun W (hb:Od w w W)=>Vh W m.p.id m.p.thread m.p.at_ m.p.mod m.p.born ⟨m.p.text.toArray⟩ m.kv m.mv m.p.zr bx (hp.mem.keep (T:=[]) hb.size (fun b h _=>hb.block b h) (fun _ _ _ h=>by cases h)) O
  have aa:=hst.xj
  have b9:=hst.blk.lt
  rw[b5,X] at aa
  have J:∀W,Od w w W→W.cell? (Y g 11)=some (RO (some (Y a c)) nm cm)∧∀i,i < 8→W.cell? (Y a (c+j * 8+i))=(xV m)[i]?:=fun W hb=>⟨(hb.cell b9).trans aa,fun i hi=>(hb.cell b8).trans (U i hi).1⟩
  rw[hy] at ae
  simp only
  rw[←ae,hu]
  simp only[L,M,hu] at Q
  have a9:=V Q
  have a6:=V J
  have HQ:=V ag
  have bd:(j:Int) < (nm:Int):=O
  have bb:¬(j:Int) < 0:=O
  have bc:(0:Int)≤(j:Int):=O
  obtain⟨⟨s,A,B,f,mk,t,z,r⟩,b6,b7⟩:=m
  simp only at L M Q a9 hu
  have K:∀W,Od w w W→W.cell? (Y gr 0)=some (I bx)∧W.cell? (Y gr 1)=some (RO (some (Y b D)) n ab)∧W.cell? (Y b (D+k * 3))=some (I mu)∧W.cell? (Y g 11)=some (RO (some (Y a c)) nm cm)∧W.cell? (Y a (c+j * 8))=some (I s)∧W.cell? (Y a (c+j * 8+1))=some (I A)∧W.cell? (Y a (c+j * 8+2))=some (RP ⟨B.toArray⟩)∧W.cell? (Y a (c+j * 8+3))=some (I f)∧W.cell? (Y a (c+j * 8+4))=some (RO Ak mk.length ck)∧W.cell? (Y a (c+j * 8+5))=some (RO Av t.length cv)∧W.cell? (Y a (c+j * 8+6))=some (I z)∧W.cell? (Y a (c+j * 8+7))=some (I r):=fun W hb=>by
   obtain⟨a0,a1,a2,_⟩:=ap.o W hb
   obtain⟨a3,a4⟩:=a6.o W hb
   have S:∀i,i < 8→W.cell? (Y a (c+j * 8+i))=([I s,I A,RP ⟨B.toArray⟩,I f,RO Ak mk.length ck,RO Av t.length cv,I z,I r]:Ob Oe)[i]?:=fun i hi=>(a4 i hi).trans (by rw[←L,←M];rfl)
   exact⟨a0,a1,a2,a3,S 0 zD,S 1 zD,S 2 zD,S 3 zD,S 4 zD,S 5 zD,S 6 zD,S 7 zD⟩
  have d:=V K
  have ar:=V (a7.o.heap (w':=w1.drew) rfl)
  have HD:Z (Od w w w1.drew):=V (zj G.o (zG w1))
  have HF:Z ((xV ⟨⟨s,A,B,f,mk,t,z,r⟩,b6,b7⟩).toArray=#[I s,I A,Oa B,I f,RO Ak mk.length ck,RO Av t.length cv,I z,I r]):=V (by rw[←L,←M];rfl)
  obtain⟨lk,b1⟩:∃lk,mk.length=lk:=⟨_,rfl⟩
  obtain⟨lm,b2⟩:∃lm,t.length=lm:=⟨_,rfl⟩
  simp only[b1,b2] at d HF a9
  subst am
  clear hR hq Q J ag aa U hp b0 hy b5 X b3 hu K b1 b2 L M
  obtain⟨rr,an⟩:∃rr,rr=(if u=mu then some (⟨s,A,B,f,mk,t,z,r⟩:zR) else none):=⟨_,rfl⟩
  rw[←an]
  have au:=V an
  clear an
  go_enter func66,ntmps66
  go_upto_region 1 with(fail)
  rw[←N]
  clear N
  go_upto_region 4 with(first
   |(go_at_call 134;refine aq.o.mono ?_;rintro e w2 ⟨rfl,rfl⟩)
   |fail)
  go_region_held3 (fun W=>W.cell? (Y gr 0)=some (I bx)∧W.cell? (Y gr 1)=some (RO (some (Y b D)) n ab)∧W.cell? (Y b (D+k * 3))=some (I mu)∧W.cell? (Y g 11)=some (RO (some (Y a c)) nm cm)∧W.cell? (Y a (c+j * 8))=some (I s)∧W.cell? (Y a (c+j * 8+1))=some (I A)∧W.cell? (Y a (c+j * 8+2))=some (RP ⟨B.toArray⟩)∧W.cell? (Y a (c+j * 8+3))=some (I f)∧W.cell? (Y a (c+j * 8+4))=some (RO Ak lk ck)∧W.cell? (Y a (c+j * 8+5))=some (RO Av lm cv)∧W.cell? (Y a (c+j * 8+6))=some (I z)∧W.cell? (Y a (c+j * 8+7))=some (I r))
   (first
    |exact d.o _ G.o
    |exact d.o _ HD.o
    |exact d.o _ P.o
    |go_keep)
   (first
    |(go_at_call 54;refine(a9.o _ (by first|exact G.o|exact HD.o)).mono ?_;rintro e w2 ⟨rfl,ad⟩;have P:Z (Od w w w2):=V (zj (by first|exact G.o|exact HD.o) ad);have a8:=V (ar.o.below ad ar.o.lt);clear ad)
    |fail)
  obtain⟨_,_,_,z3,z4,z5,z6,z7,z8,z9,zz,zy⟩:=d.o _ P.o
  obtain⟨⟨r0,r1,r2,r3,r4,r5,r6,r7⟩,f0,f1,f2,f3,f4,f5,f6,f7⟩:=qB a8.o
  go_wp2_with fail
  ·refine bodyPost_ret (v:=.tuple #[.agg (xV oN).toArray,.bool false]) ?_ rfl ⟨?_,?_⟩
   ·exact Ql (blk8 a8.o _ _ _ _ _ _ _ _) rfl rfl
   ·exact qq P.o (Oq _) _ _ _ _ _ _ _ _
   ·rw[au.o,Om (by rename_i hh;intro he;rw[he] at hh;simp at hh;omega)]
  ·refine bodyPost_ret (v:=.tuple #[.agg (xV ⟨⟨s,A,B,f,mk,t,z,r⟩,b6,b7⟩).toArray,.bool true]) ?_ rfl ⟨?_,?_⟩
   ·rw[HF.o]
    exact Ql (blk8 a8.o _ _ _ _ _ _ _ _) rfl rfl
   ·exact qq P.o (Oq _) _ _ _ _ _ _ _ _
   ·rw[au.o,OG (by rename_i hh;simp at hh;omega)]
    exact⟨_,HQ.o,rfl,rfl⟩
end
end Go.Proofs.YtnofkliaofgiaaaGreatDoor
