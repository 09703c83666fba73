/-
  The walk of pillarboxlaw24.ViewFollows.
-/
import Derived.Test.YtnofkliaofgiaaaGreatDoorGWD
import Derived.Test.YtnofkliaofgiaaaGreatDoorGVE
import Derived.Test.YtnofkliaofgiaaaGreatDoorIntsVM
import Derived.Test.YtnofkliaofgiaaaGreatDoorGWB
set_option maxRecDepth 100000
set_option maxHeartbeats 8000000
open Go.Proofs.Tryz
open Exists renaming intro→OA
open Go renaming Value→Oe,World→Oc
open Go.Ending renaming returned→RR
open Go.IntKind renaming i64→Ov
open Go.IntWalk renaming i64_in→Og
open Go.RowKit renaming Below→Od
open Go.RowKit.Below renaming refl→Ok
open Go.Value renaming slice→RO,string→RP
open Go.Value.slice renaming inj→OM
open List renaming getElem?_eq_getElem→Ot,getElem?_eq_some_iff→OX,getElem_mem→Oj,length_map→Ow,mem_map→OL,mem_map_of_mem→OV,mem_of_find?_eq_some→O2
open Nat renaming add_assoc→O1,le_trans→Ol,zero_le→OE
open _root_ renaming List→Ob
namespace Go.Proofs.YtnofkliaofgiaaaGreatDoor
open Go.Shelf Go.RowKit Go.Lib
attribute [local go_sem ↓] Go.wp_at_zero Go.wp_at_succ
def FwO (w wr:Oc)(g gv n m:Nat)(o:Oe):Prop:=∃q qv x v hm k A c,o=RO A k c∧NJ w wr g q gv qv x v n m (RO A k c) hm k
theorem actInF {w W:Oc}{g:Nat}{q:zW}{x:Acc}{l:Ob gP}{a:gP}(hst:zH W g q x)(hf:Fit x)(ha:∀a∈l,pX w a)(hv:Zq (l.map (·.p))=false)(hm:a∈l)(hb:Od w w W) :
  Ys W g q x a.p.zg a.vb [] a.p.keys a.vk [] a.p.name:=by
 obtain⟨j,c⟩:=XT hv
 obtain⟨f,h,i,b⟩:=c a.p (OV hm)
 obtain⟨d,e⟩:=ha a hm
 exact⟨hst,hf,d.below hb,O,e.below hb,O,fun s hs=>Ol (b s hs) zD,O⟩
theorem nextPos {x:Acc}(h:Fit x){i:Int}(hi:i∈ids x.zg):0 < yb x.zg i:=by
 unfold yb
 cases c:x.zg.find? (fun b=>decide (b.id=i)) with
 |none=>
  obtain⟨b,d,rfl⟩:=OL.1 hi
  have a:=List.find?_eq_none.1 c b d
  simp at a
 |some b=>
  have a:=(h.box b (O2 c)).next.1
  show 0 < b.next
  omega
theorem aK (w:Oc)(ht:Vm w)(va:Oe)(l:Ob gP)(vb:Oe)(ts:Ob Qu)(hr:NN w [] 6 va l.length (zU uQ l))(ha:∀a∈l,pX w a)(hr2:NN w [] 8 vb ts.length (zU Xe ts))(htt:∀t∈ts,rM w t) :
  C 3 #[va,vb] w fun e w'=>e=RR (.bool true)∧Od w w w':=by
 have ab:=cJ w va vb l ts hr ha hr2 htt
 have c6:∀W,Od w w W→_:=fun W d=>bY W (ht.later d)
 have bj:=V c6
 obtain⟨A,dp,rfl,_,_⟩:=hr.form
 obtain⟨A2,dk,rfl,_,_⟩:=hr2.form
 obtain⟨n,hn⟩:∃n,ts.length=n:=⟨_,rfl⟩
 obtain⟨nl,b6⟩:∃nl,l.length=nl:=⟨_,rfl⟩
 have HR:=V hr
 have HA:=V ha
 have d1:=V hr2
 have b':=V htt
 have HT:=V ht
 have HN:=V hn
 have aw:=V b6
 rw[hn,b6] at ab ⊢
 clear hr ha hr2 htt c6 ht hn b6
 go_enter func3,ntmps3
 go_upto_region 1 with(fail)
 go_cut [19] (fun bv wx=>∃b:Bool,bv=.bool b∧Z (b=false→n≤60∧Zq ((ts.map (·.a)).map (·.p))=false∧Zq (l.map (·.p))=false)∧Z (Od w w wx))
 case first=>
  go_wp2_with (first
   |(go_at_call 5;refine ab.mono ?_;rintro e w1 ⟨b,rfl,d,c7⟩;have HB:=V d;have E:=V c7;clear d c7 ab)
   |fail)
  go_meet
  exact⟨b,rfl,HB,E⟩
 case rest=>
  obtain⟨b,rfl,HB,E⟩:=hcut
  obtain⟨w1,rfl⟩:∃w1:Oc,w1=wc:=⟨_,rfl⟩
  clear ab
  cases b with
  |true=>
   go_wp2_with (first
    |(go_at_call 6;refine(bj.o _ E.o).mono ?_;rintro e w5 ⟨rfl,d⟩;have ar:=V (zj E.o d);clear d)
    |fail)
   go_ret
   exact⟨rfl,ar.o⟩
  |false=>
   obtain⟨dl,ct,be⟩:=HB.o rfl
   have dc:nl≤60:=by
    have B:=(XT be).1
    rw[Ow,aw.o] at B
    exact B
   have a':=bZ w1 _ l (HR.o.below E.o) (fun a h=>Uh (HA.o a h) E.o) be
   have bf:=VL.new.run (l.map (·.p))
   have G:=dN (l.map (·.p)) VL.new.viv (by simp[Yt,ids])
   obtain⟨x,hx⟩:∃x,wA (Yt YK) (l.map (·.p))=x:=⟨_,rfl⟩
   rw[Ow,aw.o,Nat.zero_add,hx] at bf
   rw[hx,aw.o] at a'
   rw[hx] at G
   have d4:=V ct
   have s:=V bf
   clear hx ct be HB bf
   go_upto_region 4 with(first
    |(go_at_call 7;refine a'.mono ?_;rintro e w2 ⟨g,q,g2,q2,rfl,ho⟩;have HO:=V (ho.st.BG E.o);clear ho a')
    |fail)
   have X:x.zg.length≤1099511627776:=by
    have B:=s.o.viv.fit.nb
    have h2:=s.o.zA
    omega
   have ch:=s.o.zC
   have dg:=YL x 1
   have R:=VO w2 g q x HO.o.at_ s.o.viv.fit.J9 X 1 ((uv _ _).2 G) (N9 x 1) (UU s.o.viv 1) (uW s.o.viv 1) O
   have ac:=rj s.o.viv 1
   have b0:=rN.new s.o.viv G (nextPos s.o.viv.fit G)
   obtain⟨v0,cs⟩:∃v0,jV 1 (N9 x 1)=v0:=⟨_,rfl⟩
   obtain⟨n0,b5⟩:∃n0,v0.l.length=n0:=⟨_,rfl⟩
   rw[cs] at R ac b0
   have ci:n0≤1099511627776:=by have:=ac.1.len;omega
   have a6:=V (And.intro ac b0)
   have cr:=fun W gv qv (h:xN w2 W gv qv v0)=>fI W gv qv v0 h.at_ n0 b5 ci
   have c0:=V cr
   have bq:=V b5
   have bp:=V ch
   clear X ch dg ac b0 cs b5 cr G
   go_upto_region 10 with(first
    |(go_at_call 8;refine R.mono ?_;rintro e w3 ⟨gv,qv,rfl,ho,d⟩;have a8:=V ho;have ap:=V d;clear d ho R)
    |(go_at_call 10;refine(c0.o _ _ _ a8.o).mono ?_;rintro e w4 ⟨A4,c4,h4,rfl,co,cl,c8⟩;have bz:=V co;have bw:=V cl;have aq:=V c8;clear co cl c8)
    |(go_at_call 9;refine(Zd _ _).mono ?_;rintro e1 wn ⟨rfl,rfl⟩)
    |fail)
   have dd:=HO.o.below.size
   have cp:=ap.o.size
   have bx:Z (FwO w w4 g gv (nl+0) (200 * 1) (RO A4 n0 c4)):=V ⟨q,qv,x,v0,h4,n0,A4,c4,rfl,HO.o.later (zj ap.o aq.o),⟨a8.o.at_.later aq.o,fun k hk=>by have:=a8.o.own k hk;omega⟩,s.o,a6.o.1.1.more (by have:=bp.o;omega),a6.o.1.2,a6.o.2,bz.o,fun b d=>by have:=bw.o b d;omega,bq.o⟩
   clear dd cp
   go_wp2_with fail
   go_loopw [9,10] (fun o iv wr=>∃k:Nat,k≤n∧iv=I k∧Z (FwO w wr g gv (nl+k) (200 * (k+1)) o)) (fun _ iv _=>n - (intOf iv).toNat)
   case atStart=>exact⟨0,OE _,rfl,bx⟩
   case round=>
    clear bx HO a8 ap aq bz bw a6 E s c0 bq bp
    obtain⟨k,hk,rfl,HQ⟩:=hrel
    obtain⟨q,qv,x,v,hm,kk,A9,c9,rfl,hf⟩:=HQ.o
    have HF:=V hf
    clear hf HQ
    by_cases db:k < n
    ·have cg:(k:Int) < (n:Int):=O
     have dt:(0:Int)≤(k:Int):=O
     have dv:Ov.wrap ((k:Int)+1)=(k:Int)+1:=Og _ O
     have b4:k < ts.length:=by rw[HN.o];exact db
     obtain⟨b1,o1,c1,R,_,_,ce,_,af⟩:=d1.o.at_ (by rw[HN.o];omega)
     obtain⟨rfl,_,rfl⟩:=OM R
     obtain⟨⟨Q,r,nn⟩,b9⟩:∃t,ts[k]=t:=⟨_,rfl⟩
     have ba:(⟨Q,r,nn⟩:Qu)∈ts:=b9 ▸ Oj b4
     obtain⟨bb,_,_⟩:=b'.o _ ba
     have f:∀W,Od w w W→∀j,j < 8→W.cell? (Y b1 (o1+k * 8+j))=(Xe ⟨Q,r,nn⟩)[j]?:=fun W d j hj=>by
      rw[O1]
      refine(d.cell ce).trans ((af (k * 8+j) O).trans ?_)
      rw[yv YD ts k j b4 hj,b9]
     have F:=HF.o.st.below
     have c5:=actInF (l:=ts.map (·.a)) HF.o.st.at_ HF.o.vl.viv.fit (fun a h=>by
      obtain⟨t,B,rfl⟩:=OL.1 h
      exact(b'.o t B).1) d4.o (OL.2 ⟨_,ba,rfl⟩) F
     have a9:=act_any wr g q x Q.p.op Q.p.id Q.p.at_ Q.p.name Q.p.zg Q.p.keys Q.vb Q.vk c5
     have K:=fun W q' (h:zL wr W g q (gQ x Q.p) q')=>HF.o.act Q.p h
     have a1:=bb.1.form
     have a2:=bb.2.form
     obtain⟨⟨op,id,at_,nm,bs,ks⟩,vb,vk⟩:=Q
     have z0:wr.cell? (Y b1 (o1+k * 8))=some (I op):=f wr F 0 O
     have z1:wr.cell? (Y b1 (o1+k * 8+1))=some (I id):=f wr F 1 O
     have z2:wr.cell? (Y b1 (o1+k * 8+2))=some (I at_):=f wr F 2 O
     have z3:wr.cell? (Y b1 (o1+k * 8+3))=some (RP ⟨nm.toArray⟩):=f wr F 3 O
     have z4:wr.cell? (Y b1 (o1+k * 8+4))=some vb:=f wr F 4 O
     have z5:wr.cell? (Y b1 (o1+k * 8+5))=some vk:=f wr F 5 O
     have HC:Z (∀W,Od w w W→W.cell? (Y b1 (o1+k * 8+6))=some (I r)):=V fun W d=>f W d 6 O
     simp only at a1 a2 a9 K
     obtain⟨Ab,cb,a1,_,_⟩:=a1
     obtain⟨Ak,ck,a2,_,_⟩:=a2
     obtain⟨nb,X⟩:∃nb,bs.length=nb:=⟨_,rfl⟩
     obtain⟨nk,cj⟩:∃nk,ks.length=nk:=⟨_,rfl⟩
     rw[X] at a1
     rw[cj] at a2
     subst a1 a2
     obtain⟨S,bg⟩:∃S,gQ x ⟨op,id,at_,nm,bs,ks⟩=S:=⟨_,rfl⟩
     rw[bg] at a9
     simp only[bg] at K
     have br:=V K
     clear f af R ce F X cj K bg b9 ba bb b4 c5 HF
     go_upto_region 14 with(first
      |(go_at_call 11;refine a9.mono ?_;rintro e1 w8 ⟨rfl,q8,cm⟩;have m:=V (br.o _ _ cm);clear cm a9 br;have y6:=HC.o w8 m.o.st.below)
      |fail)
     clear z0 z1 z2 z3 z4 z5
     by_cases az:r=1∨r=2
     ·obtain⟨a,ca⟩:∃a,(r==1)=a:=⟨_,rfl⟩
      have bd:=m.o.update O O HT.o a
      have H:=m.o.oz O O a
      have cq:a=true→_:=fun _=>m.o.cov.all m.o.vl.viv yq
      have cc:=fun W h=>DV W g q8 S h m.o.vl.viv 1
      obtain⟨ls,cf⟩:∃ls,lO yq (N9 S 1) v a=ls:=⟨_,rfl⟩
      obtain⟨tx,bc⟩:∃tx,(yH yq (N9 S 1) v a).1=tx:=⟨_,rfl⟩
      obtain⟨v',a0⟩:∃v',(yH yq (N9 S 1) v a).2=v':=⟨_,rfl⟩
      obtain⟨u,J⟩:∃u,v'.l.length=u:=⟨_,rfl⟩
      have cd:u≤1099511627776:=by
       have B:=(VW yq m.o.vl.viv m.o.vi 1 a).len
       have h2:=m.o.vl.zC
       rw[a0,J] at B
       omega
      obtain⟨nz,b7⟩:∃nz,(N9 S 1).length=nz:=⟨_,rfl⟩
      have N:a=true→v'.l.map (·.uid)=(N9 S 1).map (·.1):=fun ha=>by
       rw[←a0,ha]
       exact cq ha
      rw[cf,bc,a0] at H
      rw[bc,a0] at bd
      have aj:a=true→nz=u:=fun ha=>by
       have B:=congrArg List.length (N ha)
       rw[Ow,Ow,J,b7] at B
       exact B.symm
      have du:kk≤1099511627776:=by
       have B:=m.o.len
       have h2:=m.o.vi.len
       omega
      have aa:=fun W (h:NN W [] 1 (RO A9 kk c9) kk ((v.l.map (·.uid)).map yJ))=>sM W (v.l.map (·.uid)) kk A9 c9 h (by
       have B:=m.o.len
       have h2:=m.o.vi.len
       omega) ls H.chain H.small
      have P:=H.len
      rw[Ow,J] at P
      simp only[←H.text] at aa
      have U:a=false→kk≤u:=fun ha=>by
       have B:=H.more ha
       rw[Ow,Ow,m.o.len,J] at B
       exact B
      have D:∀i (y z:Int),(UW (v.l.map (·.uid)) ls)[i]?=some y→(v'.l.map (·.uid))[i]?=some z→y=0∨y=z:=fun i y z hy hz=>by
       obtain⟨i1,e1⟩:=OX.1 hy
       obtain⟨i2,e2⟩:=OX.1 hz
       have B:=H.same i i1 i2
       rw[e1,e2] at B
       exact B
      obtain⟨nx,K⟩:∃nx,UW (v.l.map (·.uid)) ls=nx:=⟨_,rfl⟩
      obtain⟨us,ad⟩:∃us,v'.l.map (·.uid)=us:=⟨_,rfl⟩
      have ak:us.length=u:=by rw[←ad,Ow,J]
      simp only[K] at aa P D
      simp only[ad] at N D
      have d3:=V bd
      have c':=V aa
      have d2:=V cc
      have ae:=V P
      have ax:=V D
      have bi:=V N
      have a7:=V (And.intro ad ak)
      have bo:=V J
      have bt:=V (And.intro b7 aj)
      clear bd H cq cc cf bc a0 J b7 N aj aa P D K ad ak
      rcases az with rfl|rfl <;> cases a
      all_goals try exact absurd ca zD
      all_goals
       try have dw:(kk:Int)≤(u:Int):=by have:=U rfl;omega
       try have dx:¬u < kk:=O
       clear U ca
       go_upto_block 2 with(first
        |(go_at_call 12;refine d3.o.mono ?_;rintro e w9 ⟨rfl,cx,hf⟩;have au:=V hf;clear hf;have y9:=HC.o w9 au.o.st.below)
        |(go_at_call 13;refine(c'.o w9 (au.o.sl.reads [] zv)).mono ?_;rintro e cy ⟨dm,dh,dn,dq,rfl,hl,hs,d⟩;obtain rfl:u=dh:=ae.o.symm.trans hl;have c2:=V hs;have L:=V (au.o.later d);have dj:=HC.o cy L.o.st.below;clear hl hs d y9)
        |(go_at_call 10;refine(fI cy gv cx v' L.o.vw.at_ _ bo.o cd).mono ?_;rintro e a4 ⟨ao,ay,d7,rfl,hs,ho,d⟩;rw[a7.o.1] at hs;have T:=V hs;have d5:=V ho;have c3:=V (c2.o.keep (fun b h=>d.block b (c2.o.lt b h)));have M:=V (L.o.later d);have e7:=HC.o a4 M.o.st.below;clear hs ho d dj)
        |fail)
       go_cut [] (fun wx=>Z (Od a4 a4 wx))
       case first=>
        go_wp2_with fail
        go_loopw [16] (fun iv wr=>∃i:Nat,i≤u∧iv=I i∧Z (Od a4 a4 wr)) (fun iv _=>u - (intOf iv).toNat)
        case atStart=>exact⟨0,OE _,rfl,V (Ok _ _)⟩
        case round=>
         obtain⟨i,hi,rfl,HU⟩:=hrel
         by_cases ai:i < u
         ·have b2:i < nx.length:=by rw[ae.o];exact ai
          have b3:i < us.length:=by rw[a7.o.2];exact ai
          obtain⟨bn,al,cn,_,de,_,_,d8,ag⟩:=c3.o.at_ O
          obtain⟨bu,an,cu,_,df,_,_,d9,ah⟩:=T.o.at_ O
          injection de with hvn1 hvn2 hvn3
          subst hvn1
          injection df with hvu1 hvu2 hvu3
          subst hvu1
          have a3:=ax.o i nx[i] us[i] (Ot b2) (Ot b3)
          have d0:wr.cell? (Y bn (al+i))=some (I nx[i]):=(HU.o.cell (p:=⟨bn,al+i,none⟩) d8).trans ((ag i O).1.trans (by simp[yJ,b2]))
          have e0:wr.cell? (Y bu (an+i))=some (I us[i]):=(HU.o.cell (p:=⟨bu,an+i,none⟩) d9).trans ((ah i O).1.trans (by simp[yJ,b3]))
          clear ag ah hvn2 hvn3 hvu2 hvu3
          generalize nx[i]=y at d0 a3
          generalize us[i]=z at e0 a3
          clear b2 b3
          have da:(i:Int) < (u:Int):=O
          have dr:(0:Int)≤(i:Int):=O
          have ds:Ov.wrap ((i:Int)+1)=(i:Int)+1:=Og _ O
          have a5:=fun c=>V (iF HU.o c)
          by_cases bh:y=0
          ·subst bh
           clear a3
           go_wp2_with fail
           go_quiet (fail)
           go_wp2
           refine⟨?_,by simp[intOf];omega⟩
           first|exact⟨i+1,O,zE,a5 nq⟩|((repeat apply OA);exact⟨⟨i+1,O,zE,a5 nq⟩,rfl⟩)
          ·have dy:(y !=0)=true:=by simpa using bh
           obtain rfl:y=z:=a3.resolve_left bh
           have dz:(y !=y)=false:=by simp
           clear a3
           go_wp2_with fail
           go_quiet (fail)
           go_wp2
           refine⟨?_,by simp[intOf];omega⟩
           first|exact⟨i+1,O,zE,a5 nq⟩|((repeat apply OA);exact⟨⟨i+1,O,zE,a5 nq⟩,rfl⟩)
         ·have da:¬(i:Int) < (u:Int):=O
          go_wp2_with fail
          go_meet
          exact HU
       case rest=>
        obtain⟨wz,rfl⟩:∃wz:Oc,wz=wc:=⟨_,rfl⟩
        have HZ:=hcut
        have av:∀W,Od wz wz W→Z (FwO w W g gv (nl+(k+1)) (200 * (k+1+1)) (RO ao u ay)):=fun W d=>
         V ⟨q8,cx,S,v',d7,u,ao,ay,rfl,(((M.o.later (zj HZ.o d)).next (by rw[a7.o.1];exact T.o.keep (fun b hq=>(zj HZ.o d).block b (T.o.lt b hq))) (fun b hq=>by have B:=d5.o b hq;have h2:=L.o.st.below.size;omega) bo.o).more O O)⟩
        have e8:=HC.o wz (zj M.o.st.below HZ.o)
        try have b8:=d2.o wz (M.o.later HZ.o).st.at_
        try have cv:(N9 S 1).length=u:=bt.o.1.trans (bt.o.2 True.intro)
        try have cw:(N9 S 1).map (·.1)=us:=(bi.o True.intro).symm
        try rw[cw,cv] at b8
        try clear cv cw
        go_wp2_with (first
         |(go_at_call 15;refine b8.mono ?_;rintro e di ⟨cz,d6,az,rfl,hs,d⟩;have HI:=V (jD di (RO ao u ay) (RO cz u d6) u us a7.o.2 ((T.o.keep (fun b hq=>(zj HZ.o d).block b (T.o.lt b hq))).reads [] zv) (hs.reads [] zv));have bk:=V d;clear b8 hs d)
         |(go_at_call 14;refine HI.o.mono ?_;rintro e d' ⟨rfl,d⟩;have bm:=av _ (zj bk.o d);clear d)
         |fail)
        refine⟨?_,by simp[intOf];omega⟩
        first|exact⟨k+1,O,zE,bm⟩|exact⟨k+1,O,zE,av _ (Ok _ _)⟩|((repeat apply OA);exact⟨⟨k+1,O,zE,bm⟩,rfl⟩)|((repeat apply OA);exact⟨⟨k+1,O,zE,av _ (Ok _ _)⟩,rfl⟩)
     ·have e1:(r==1)=false:=by simp;omega
      have e2:(r==2)=false:=by simp;omega
      have e3:(r !=1)=true:=by simp;omega
      have e4:(r !=2)=true:=by simp;omega
      have e5:¬r=1:=O
      have e6:¬r=2:=O
      have K1:Z (FwO w w8 g gv (nl+(k+1)) (200 * (k+1+1)) (RO A9 kk c9)):=V ⟨q8,qv,S,v,hm,kk,A9,c9,rfl,m.o.more O O⟩
      clear az
      go_wp2_with fail
      refine⟨?_,by simp[intOf];omega⟩
      first|exact⟨k+1,O,zE,K1⟩|((repeat apply OA);exact⟨⟨k+1,O,zE,K1⟩,rfl⟩)
    ·have cg:¬(k:Int) < (n:Int):=O
     have bl:=V HF.o.st.below
     go_wp2_with (first
      |(go_at_call 6;refine(bj.o _ bl.o).mono ?_;rintro e w5 ⟨rfl,d⟩;have ar:=V (zj bl.o d);clear d)
      |fail)
     go_ret
     exact⟨rfl,ar.o⟩
end Go.Proofs.YtnofkliaofgiaaaGreatDoor
