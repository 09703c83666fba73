/-
  The walk of pillarboxlaw24.ViewRuns.
-/
import Derived.Test.YtnofkliaofgiaaaGreatDoorGVL
import Derived.Test.YtnofkliaofgiaaaGreatDoorGVE
set_option maxRecDepth 100000
set_option maxHeartbeats 8000000
open Go.Proofs.Tryz
open Exists renaming intro→OA
open Go renaming Value→Oe,World→Oc
open Go.Ending renaming returned→RR
open Go.IntKind renaming i64→Ov
open Go.IntWalk renaming i64_in→Og
open Go.RowKit renaming Below→Od
open Go.Value renaming string→RP
open Go.Value.slice renaming inj→OM
open List renaming getElem_mem→Oj,length_map→Ow,mem_map→OL
open Nat renaming add_assoc→O1,zero_le→OE
open _root_ renaming List→Ob,if_pos→OG
namespace Go.Proofs.YtnofkliaofgiaaaGreatDoor
open Go.Shelf Go.RowKit Go.Lib
attribute [local go_sem ↓] Go.wp_at_zero Go.wp_at_succ
theorem V9.from1 {w w1 wr:Oc}{g g2:Nat}{q q2:zW}{x:Acc}(h:V9 w1 wr g q g2 q2 x)(hb:Od w w w1):V9 w wr g q g2 q2 x:=⟨h.st.BG hb,h.rf.BG hb,h.apart⟩
section
variable {w wr:Oc} {g g2 gv gr n m:Nat} {q q2:zW} {x:Acc} {qv:xa} {qr:NM} {v u:yI}
theorem V'.update (h:V' w wr g q g2 q2 x gv qv gr qr v u)(hx:VL x n)(hn:n≤1000)(hi:bX v m)(hm:m≤16000000)(ht:Vm w)(all:Bool) :
  C 12 #[Y gv 0,Y g 0,.bool all] wr fun e w'=>e=RR (RP ⟨(yH yq (N9 x v.box) v all).1.toArray⟩)∧∃qv',V' w w' g q g2 q2 x gv qv' gr qr (yH yq (N9 x v.box) v all).2 u:=by
 have b:=hi.len
 have c:=YL x v.box
 have d:=hx.zC
 refine(Jm wr w.heap.size g q x gv qv v (N9 x v.box) all ⟨h.both.st.at_,hx.viv.fit.J9,h.vw,O,UU hx.viv v.box,uW hx.viv v.box,O,hx.N8 hn v.box,fun m hm=>by have:=(hi.uid m hm).2;omega,h.below.size,h.ov,fun W hW=>ht.later (h.below.trans hW)⟩).mono ?_
 rintro e w' ⟨rfl,qv',a⟩
 exact⟨rfl,qv',h.viewed a⟩
theorem V'.rupdate (h:V' w wr g q g2 q2 x gv qv gr qr v u)(hx:VL x n)(hn:n≤1000)(hi:bX u m)(hm:m≤16000000)(all:Bool) :
  C 18 #[Y gr 0,Y g2 0,.bool all] wr fun e w'=>e=RR (RP ⟨(yH yq (N9 x u.box) u all).1.toArray⟩)∧∃qr',V' w w' g q g2 q2 x gv qv gr qr' v (yH yq (N9 x u.box) u all).2:=by
 have b:=hi.len
 have c:=YL x u.box
 have d:=hx.zC
 refine(ox wr g2 q2 x gr qr u all ⟨h.both.rf.at_,hx.viv,h.rv,O,O,hx.N8 hn u.box,hi.uid⟩).mono ?_
 rintro e w' ⟨rfl,qr',a⟩
 exact⟨rfl,qr',h.X2 a⟩
theorem V'.told (h:V' w wr g q g2 q2 x gv qv gr qr v u)(hx:VL x n)(hn:n≤1000)(hi:bX v m)(hm:m≤16000000)(at_:Int) :
  C 19 #[Y gv 0,Y g 0,I at_] wr fun e w'=>e=RR (.tuple #[])∧∃qv',V' w w' g q g2 q2 x gv qv' gr qr (Jj (N9 x v.box) v at_) u:=by
 have c:=hi.len
 have d:=YL x v.box
 have f:=hx.zC
 by_cases a:at_ < 1∨(v.l.length:Int) < at_
 ·refine(told_no wr g gv qv v h.vw at_ a).mono ?_
  rintro e w' ⟨rfl,rfl⟩
  unfold Jj
  rw[OG a]
  exact⟨rfl,qv,h⟩
 ·obtain⟨k,rfl⟩:∃k:Nat,at_=(k:Int)+1:=⟨(at_ - 1).toNat,O⟩
  refine(Lv wr g q x gv qv v (N9 x v.box) h.both.st.at_ hx.viv.fit.J9 h.vw O (UU hx.viv v.box) (uW hx.viv v.box) O k O).mono ?_
  rintro e w' ⟨rfl,qv',b⟩
  exact⟨rfl,qv',h.viewed b⟩
theorem V'.rtold (h:V' w wr g q g2 q2 x gv qv gr qr v u)(hx:VL x n)(hi:bX u m)(hm:m≤16000000)(at_:Int)(hlo:-9223372036854775808≤at_)(hhi:at_≤9223372036854775807) :
  C 20 #[Y gr 0,Y g2 0,I at_] wr fun e w'=>e=RR (.tuple #[])∧∃qr',V' w w' g q g2 q2 x gv qv gr qr' v (Jj (N9 x u.box) u at_):=by
 have b:=hi.len
 refine(DB wr g2 q2 x h.both.rf.at_ hx.viv gr qr u h.rv O (fun m hm=>by have:=(hi.uid m hm).1;omega) at_ hlo hhi).mono ?_
 rintro e w' ⟨rfl,qr',a⟩
 exact⟨rfl,qr',h.X2 a⟩
end
def RunS (w wr:Oc)(g g2 gv gr:Nat)(box:Int)(n m:Nat):Prop:=∃q q2 x qv qr v,V' w wr g q g2 q2 x gv qv gr qr v v∧VL x n∧bX v m∧v.box=box
theorem lR (w:Oc)(ht:Vm w)(va:Oe)(l:Ob gP)(box:Int)(vb:Oe)(ts:Ob Qu)(hr:NN w [] 6 va l.length (zU uQ l))(ha:∀a∈l,pX w a)(hr2:NN w [] 8 vb ts.length (zU Xe ts))(htt:∀t∈ts,rM w t) :
  C 4 #[va,I box,vb] w fun e w'=>e=RR (.bool true)∧Od w w w':=by
 have Dm:=cJ w va vb l ts hr ha hr2 htt
 have b9:∀W,Od w w W→_:=fun W hb=>bY W (ht.later hb)
 have Dn:=V b9
 obtain⟨A,cd,rfl,_,_⟩:=hr.form
 obtain⟨A2,ca,rfl,_,_⟩:=hr2.form
 obtain⟨n,hn⟩:∃n,ts.length=n:=⟨_,rfl⟩
 obtain⟨nl,ap⟩:∃nl,l.length=nl:=⟨_,rfl⟩
 have HR:=V hr
 have HA:=V ha
 have c0:=V hr2
 have b6:=V htt
 have HT:=V ht
 have HN:=V hn
 have aa:=V ap
 rw[hn,ap] at Dm ⊢
 clear hr ha hr2 htt b9 ht hn ap
 go_enter func4,ntmps4
 go_upto_region 1 with(fail)
 go_cut [16] (fun bv wx=>∃b:Bool,bv=.bool b∧Z (b=false→n≤60∧Zq ((ts.map (·.a)).map (·.p))=false∧Zq (l.map (·.p))=false)∧Z (Od w w wx))
 case first=>
  exact Nf
 case rest=>
  obtain⟨b,rfl,HB,bg⟩:=hcut
  obtain⟨w1,rfl⟩:∃w1:Oc,w1=wc:=⟨_,rfl⟩
  clear Dm
  cases b with
  |true=>
   exact EQ
  |false=>
   obtain⟨cc,bw,av⟩:=HB.o rfl
   have c8:nl≤60:=by
    have h1:=(XT av).1
    rw[Ow,aa.o] at h1
    exact h1
   have al:=bZ w1 _ l (HR.o.below bg.o) (fun a h=>Uh (HA.o a h) bg.o) av
   have az:=VL.new.run (l.map (·.p))
   obtain⟨x,hx⟩:∃x,wA (Yt YK) (l.map (·.p))=x:=⟨_,rfl⟩
   rw[Ow,aa.o,Nat.zero_add,hx] at az
   rw[hx,aa.o] at al
   have c3:=V bw
   have i:=V az
   clear hx bw av HB az
   go_upto_region 4 with(first
    |(go_at_call 7;refine al.mono ?_;rintro e w2 ⟨g,q,g2,q2,rfl,ho⟩;have HO:=V (ho.from1 bg.o);clear ho al)
    |fail)
   have s:x.zg.length≤1099511627776:=by
    have h1:=i.o.viv.fit.nb
    have h2:=i.o.zA
    omega
   have P:=i.o.zC
   have bz:=YL x box
   have aw:=fun hb=>tI w2 g q x HO.o.st.at_ s box hb
   have a':=fun hb=>VO w2 g q x HO.o.st.at_ i.o.viv.fit.J9 s box hb (N9 x box) (UU i.o.viv box) (uW i.o.viv box) O
   have aq:=fun W (hb:Od w2 w2 W)=>De W g2 q2 x (HO.o.rf.at_.later hb) i.o.viv box
   have ao:=rj i.o.viv box
   have a9:=V ao
   have X:=V aq
   have ab:=V HO.o.st.below
   cases r:zZ x.zg box with
   |false=>
    have y:=aw r
    rw[r] at X
    clear aw a' aq ao s P bz r
    go_upto_region 10 with(first
     |(go_at_call 8;refine y.mono ?_;rintro e w3 ⟨rfl,hb⟩;have B:=V hb;clear hb y)
     |(go_at_call 16;refine(X.o _ B.o).mono ?_;rintro e w4 ⟨hb,rfl⟩;have N:=V (zj ab.o (zj B.o hb));clear hb)
     |(go_at_call 9;refine(Zd _ _).mono ?_;rintro e1 wn ⟨rfl,rfl⟩)
     |fail)
    go_wp2_with fail
    go_loopw [13] (fun iv wr=>iv=I 0∧Z (Od w w wr)) (fun _ _=>0)
    case atStart=>exact⟨rfl,N⟩
    case round=>
     clear N
     obtain⟨rfl,HB⟩:=hrel
     go_wp2_with (first
      |(go_at_call 6;refine(Dn.o _ HB.o).mono ?_;rintro e w5 ⟨rfl,hb⟩;have je:=V (zj HB.o hb);clear hb)
      |fail)
     go_ret
     exact⟨rfl,je.o⟩
   |true=>
    have y:=a' r
    rw[r] at X
    clear aw a' aq ao s P bz r
    go_upto_region 10 with(first
     |(go_at_call 8;refine y.mono ?_;rintro e w3 ⟨gv,qv,rfl,ho,hb⟩;have ag:=V ho;have B:=V hb;clear hb ho y)
     |(go_at_call 16;refine(X.o _ B.o).mono ?_;rintro e w4 ⟨hb,gr,qr,rfl,br,bp⟩;have N:=V hb;have ac:=V (And.intro br bp);clear hb br bp)
     |(go_at_call 9;refine(Zd _ _).mono ?_;rintro e1 wn ⟨rfl,rfl⟩)
     |fail)
    have c9:=ab.o.size
    have bt:=B.o.size
    have b3:Z (RunS w w4 g g2 gv gr box (nl+0) (200 * 1)):=V ⟨q,q2,x,qv,qr,jV box (N9 x box),⟨HO.o.later (zj B.o N.o),ag.o.at_.later N.o,ac.o.1,fun k hk=>by have:=ag.o.own k hk;omega,fun k hk=>by have:=ac.o.2 k hk;omega⟩,i.o,a9.o.1.more (by have:=i.o.zC;omega),a9.o.2⟩
    clear c9 bt
    go_wp2_with fail
    go_loopw [13] (fun iv wr=>∃k:Nat,k≤n∧iv=I k∧Z (RunS w wr g g2 gv gr box (nl+k) (200 * (k+1)))) (fun iv _=>n - (intOf iv).toNat)
    case atStart=>exact⟨0,OE _,rfl,b3⟩
    case round=>
     clear b3 HO ag B N ac a9 X bg i ab
     obtain⟨k,hk,rfl,HQ⟩:=hrel
     obtain⟨q,q2,x,qv,qr,v,hu,hx,hi,r⟩:=HQ.o
     have HU:=V hu
     have HX:=V hx
     have HI:=V hi
     have a8:=V r
     clear hu hx hi r HQ
     by_cases af:k < n
     ·have bj:(k:Int) < (n:Int):=O
      have cf:(0:Int)≤(k:Int):=O
      have cg:Ov.wrap ((k:Int)+1)=(k:Int)+1:=Og _ O
      have Hy:k < ts.length:=Zg
      obtain⟨b1,o1,c1,y,_,_,bq,_,kg⟩:=c0.o.at_ V3
      obtain⟨rfl,_,rfl⟩:=OM y
      obtain⟨⟨R,f,nn⟩,mq⟩:∃t,ts[k]=t:=⟨_,rfl⟩
      have ar:(⟨R,f,nn⟩:Qu)∈ts:=mq ▸ Oj Hy
      obtain⟨au,bi,bd⟩:=b6.o _ ar
      simp only at bi bd
      have c:∀W,Od w w W→∀j,j < 8→W.cell? (Y b1 (o1+k * 8+j))=(Xe ⟨R,f,nn⟩)[j]?:=fun W hb j hj=>by
       exact FL
      have a5:=qu w wr g q g2 q2 x R.p.op R.p.id R.p.at_ R.p.name R.p.zg R.p.keys R.vb R.vk (LI (l:=ts.map (·.a)) HU.o.both HX.o.viv.fit HX.o.room (fun a h=>by
       obtain⟨t,h1,rfl⟩:=OL.1 h
       exact(b6.o t h1).1) c3.o (OL.2 ⟨_,ar,rfl⟩))
      have a7:=HX.o.act R.p
      have E:=HU.o.below
      have a1:=au.1.form
      have a2:=au.2.form
      obtain⟨⟨op,id,at_,nm,bs,ks⟩,vb,vk⟩:=R
      have z0:wr.cell? (Y b1 (o1+k * 8))=some (I op):=c wr E 0 O
      have z1:wr.cell? (Y b1 (o1+k * 8+1))=some (I id):=c wr E 1 O
      have z2:wr.cell? (Y b1 (o1+k * 8+2))=some (I at_):=c wr E 2 O
      have z3:wr.cell? (Y b1 (o1+k * 8+3))=some (RP ⟨nm.toArray⟩):=c wr E 3 O
      have z4:wr.cell? (Y b1 (o1+k * 8+4))=some vb:=c wr E 4 O
      have z5:wr.cell? (Y b1 (o1+k * 8+5))=some vk:=c wr E 5 O
      have HC:Z (∀W,Od w w W→W.cell? (Y b1 (o1+k * 8+6))=some (I f)∧W.cell? (Y b1 (o1+k * 8+7))=some (I nn)):=V fun W hb=>⟨c W hb 6 O,c W hb 7 O⟩
      simp only at a1 a2 a5 a7
      obtain⟨Ab,cb,a1,_,_⟩:=a1
      obtain⟨Ak,ck,a2,_,_⟩:=a2
      obtain⟨nb,s⟩:∃nb,bs.length=nb:=⟨_,rfl⟩
      obtain⟨nk,bl⟩:∃nk,ks.length=nk:=⟨_,rfl⟩
      rw[s] at a1
      rw[bl] at a2
      subst a1 a2
      obtain⟨x',bx⟩:∃x',(N5 x ⟨op,id,at_,nm,bs,ks⟩).1=x':=⟨_,rfl⟩
      rw[bx] at a5 a7
      have u:=V a7
      clear c kg y bq E s bl a7 bx mq ar au Hy
      go_upto_block 2 with(first
       |(go_at_call 17;refine a5.mono ?_;rintro e1 w8 ⟨rfl,q8,q9,ba,bk⟩;have D:=V (HU.o.Nv ba bk);clear ba bk a5;obtain⟨y6,y7⟩:=HC.o w8 D.o.below)
       |fail)
      clear z0 z1 z2 z3 z4 z5
      go_cut [] (fun wx=>∃qv qr v,Z (V' w wx g q8 g2 q9 x' gv qv gr qr v v)∧Z (bX v (200 * (k+1+1))∧v.box=box))
      case first=>
       have P:=u.o.zC
       have a6:bX v (200 * (k+1+1)):=HI.o.more O
       by_cases a4:f=1∨f=2
       ·obtain⟨a,bc⟩:∃a,(f==1)=a:=⟨_,rfl⟩
        have bb:a=false→(f==2)=true:=fun h=>by
         rw[h] at bc
         rcases a4 with rfl|rfl
         ·exact absurd bc zD
         ·rfl
        have G:=D.o.update u.o O HI.o O HT.o a
        have H:=fun W qv' v' (h:V' w W g q8 g2 q9 x' gv qv' gr qr v' v)=>h.rupdate u.o O HI.o O a
        have K:=VW yq u.o.viv HI.o v.box a
        have J:=aI yq (N9 x' v.box) v a
        obtain⟨⟨tx,v'⟩,Q⟩:∃ur,yH yq (N9 x' v.box) v a=ur:=⟨_,rfl⟩
        simp only[Q] at G H K J
        have T:Z (bX v' (200 * (k+1+1))∧v'.box=box):=V ⟨K.more O,J.trans a8.o⟩
        have ad:=V G
        have ae:=V H
        have b0:Z (Od w8 w8 w8.drew):=V (zG w8)
        have a0:=fun(_:True)=>(D.o.later b0.o).update u.o O HI.o O HT.o a
        simp only[Q] at a0
        have b7:=V a0
        clear G H K J Q a4 P a6 a0
        cases a
        all_goals
         try have ce:=bb rfl
         clear bb
         go_upto_region 18 with(fail)
         go_region_held3 (fun W=>W.cell? (Y b1 (o1+k * 8+6))=some (I f))
          (first
           |exact(HC.o _ D.o.below).1
           |exact(HC.o _ (zj D.o.below b0.o)).1
           |exact(HC.o _ S.o.below).1
           |exact(HC.o _ a3.o.below).1
           |go_keep)
          (first
           |(go_at_call 12;(first|refine(b7.o trivial).mono ?_|refine ad.o.mono ?_);rintro e w9 ⟨rfl,z,hf⟩;have S:=V hf;clear hf)
           |(go_at_call 18;refine(ae.o _ _ _ S.o).mono ?_;rintro e wa ⟨rfl,L,hf⟩;have a3:=V hf;clear hf)
           |fail)
         go_wp2_with fail
         go_meet
         exact⟨z,L,v',a3,T⟩
       ·have e1:(f==1)=false:=zT
        have e2:(f==2)=false:=zT
        by_cases h3:f=3
        ·have e3:(f==3)=true:=zT
         have G:=D.o.told u.o O HI.o O nn
         have H:=fun W qv' v' (h:V' w W g q8 g2 q9 x' gv qv' gr qr v' v)=>h.rtold u.o HI.o O nn bi bd
         have K:=DX (zs:=N9 x' v.box) HI.o nn
         have J:=DW (N9 x' v.box) v nn
         obtain⟨v',Q⟩:∃ur,Jj (N9 x' v.box) v nn=ur:=⟨_,rfl⟩
         simp only[Q] at G H K J
         have T:Z (bX v' (200 * (k+1+1))∧v'.box=box):=V ⟨K.more O,J.trans a8.o⟩
         have ad:=V G
         have ae:=V H
         clear G H K J Q a4 P a6 h3
         go_wp2_with (first
          |(go_at_call 19;refine ad.o.mono ?_;rintro e w9 ⟨rfl,z,hf⟩;have S:=V hf;clear hf;obtain⟨x6,x7⟩:=HC.o w9 S.o.below)
          |(go_at_call 20;refine(ae.o _ _ _ S.o).mono ?_;rintro e wa ⟨rfl,L,hf⟩;have a3:=V hf;clear hf)
          |fail)
         go_meet
         exact⟨z,L,v',a3,T⟩
        ·have e3:(f==3)=false:=zT
         have T:Z (bX v (200 * (k+1+1))∧v.box=box):=V ⟨a6,a8.o⟩
         clear a4 P a6 h3
         go_wp2_with fail
         go_meet
         exact⟨qv,qr,v,D,T⟩
      case rest=>
       obtain⟨z,L,v9,HF,U⟩:=hcut
       obtain⟨d,rfl⟩:∃d:Oc,d=wc:=⟨_,rfl⟩
       clear y6 y7
       obtain⟨n9,F⟩:∃n9,v9.l.length=n9:=⟨_,rfl⟩
       have s:=U.o.1.len
       have M:n9≤1099511627776:=O
       have hU:=fun W (hb:Od d d W)=>fI W gv z v9 (HF.o.vw.later hb) n9 F M
       have hI:=fun W (hb:Od d d W)=>ids_any W gv z v9 (HF.o.vw.later hb) n9 F M
       have bo:=fun W (hb:Od d d W)=>DD W gr L v9 (HF.o.rv.later hb) n9 F M
       have bm:=fun W (hb:Od d d W)=>Ll W gr L v9 (HF.o.rv.later hb) n9 F M
       have hB:=fun W (hb:Od d d W)=>Kv W gv z v9 (HF.o.vw.later hb)
       simp only[U.o.2] at hB
       have bh:∀W,Od d d W→W.cell? (Y gr 0)=some (I box):=fun W hb=>((HF.o.rv.later hb).blk.cell 0).trans (by rw[←U.o.2];rfl)
       have b8:=V hU
       have b2:=V hI
       have b5:=V bo
       have b4:=V bm
       have b':=V hB
       have m:=V bh
       have HD:Z (Od d d d.drew):=V (zG d)
       have K1:Z (∀W,Od d d W→RunS w W g g2 gv gr box (nl+(k+1)) (200 * (k+1+1))):=V fun W hb=>⟨q8,q9,x',z,L,v9,HF.o.later hb,u.o.more O,U.o.1,U.o.2⟩
       have bq:(v9.l.map (·.uid)).length=n9:=by rw[Ow,F]
       have an:(v9.l.map (·.id)).length=n9:=by rw[Ow,F]
       obtain⟨us,bu⟩:∃us,v9.l.map (·.uid)=us:=⟨_,rfl⟩
       obtain⟨js,be⟩:∃js,v9.l.map (·.id)=js:=⟨_,rfl⟩
       simp only[bu,be] at b8 b2 b5 b4 bq an
       have HL:=V (And.intro bq an)
       clear F s hU hI bo bm hB bh bq an bu be
       go_upto_region 23 with(fail)
       go_region_held3 (fun W=>W.cell? (Y gr 0)=some (I box))
        (first
         |exact m.o _ HD.o
         |exact m.o _ B1.o
         |exact m.o _ B2.o
         |exact m.o _ B3.o
         |exact m.o _ B4.o
         |exact m.o _ B5.o
         |exact m.o _ B6.o
         |go_keep)
        (first
         |(go_at_call 10;refine(b8.o _ HD.o).mono ?_;rintro e u1 ⟨A1,c1,h1,rfl,hs,_,hb⟩;have S1:=V (hs.reads [] zv);have B1:Z (Od d d u1):=V (zj HD.o hb);clear hs hb)
         |(go_at_call 21;refine(b5.o _ B1.o).mono ?_;rintro e u2 ⟨A2,c2,h2,rfl,hs,_,hb⟩;have S2:=V (hs.reads [] zv);have c6:=V (S1.o.below hb);have B2:Z (Od d d u2):=V (zj B1.o hb);clear hs hb)
         |(go_at_call 14;(with_reducible refine(jD u2 _ _ n9 us HL.o.1 c6.o S2.o).mono ?_);rintro e u3 ⟨rfl,hb⟩;have B3:Z (Od d d u3):=V (zj B2.o hb);clear hb)
         |(go_at_call 22;refine(b2.o _ B3.o).mono ?_;rintro e u4 ⟨A4,c4,h4,rfl,hs,_,hb⟩;have S4:=V (hs.reads [] zv);have B4:Z (Od d d u4):=V (zj B3.o hb);clear hs hb)
         |(go_at_call 23;refine(b4.o _ B4.o).mono ?_;rintro e u5 ⟨A5,c5,h5,rfl,hs,_,hb⟩;have S5:=V (hs.reads [] zv);have c7:=V (S4.o.below hb);have B5:Z (Od d d u5):=V (zj B4.o hb);clear hs hb)
         |(go_at_call 14;(with_reducible refine(jD u5 _ _ n9 js HL.o.2 c7.o S5.o).mono ?_);rintro e u6 ⟨rfl,hb⟩;have B6:Z (Od d d u6):=V (zj B5.o hb);clear hb)
         |(go_at_call 24;refine(b'.o _ B6.o).mono ?_;rintro e u7 ⟨rfl,rfl⟩)
         |fail)
       go_wp2_with fail
       have K2:=V (K1.o _ B6.o)
       refine⟨?_,zV⟩
       first|exact⟨k+1,O,zE,K2⟩|((repeat apply OA);exact⟨⟨k+1,O,zE,K2⟩,rfl⟩)
     ·have bj:¬(k:Int) < (n:Int):=O
      have Dp:=V HU.o.below
      exact ER
end Go.Proofs.YtnofkliaofgiaaaGreatDoor
