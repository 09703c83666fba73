/-
  The walk of the view's Update.
-/
import Derived.Test.YtnofkliaofgiaaaGreatDoorGVD
import Derived.Test.YtnofkliaofgiaaaGreatDoorGVB
import Derived.Deep.RegionHeld3
set_option maxRecDepth 100000
set_option maxHeartbeats 8000000
open Go.Proofs.Tryz
open Bool renaming false_eq_true→Px
open ByteArray renaming mk→PK
open Exists renaming intro→OA
open Go renaming FuncId→PR,Program→Pv,Value→Oe,World→Oc
open Go.ByteArray renaming mk_append_mk→Pj
open Go.Ending renaming returned→RR
open Go.IntKind renaming i64→Ov
open Go.IntWalk renaming i64_in→Og
open Go.RowKit renaming Below→Od
open Go.RowKit.Below renaming refl→Ok
open Go.Value renaming pointer→RQ,slice→RO,string→RP
open Go.World renaming size_alloc→O3
open List renaming append_assoc→O4,append_nil→Pr,getElem?_eq_getElem→Ot,getElem?_map→O5,getElem_mem→Oj,length_append→Oo,length_eraseIdx_of_lt→Pq,length_map→Ow,length_take→OU,mem_filter→OZ,mem_map_of_mem→OV,mem_of_find?_eq_some→O2,nil_append→PE,take_of_length_le→Ou
open Nat renaming add_assoc→O1,le_refl→Oq,le_trans→Ol,zero_le→OE
open _root_ renaming List→Ob,UInt8→Oz,decide_eq_false→OD,decide_eq_true→OS,if_neg→Om,if_pos→OG
namespace Go.Proofs.YtnofkliaofgiaaaGreatDoor
open Go.Shelf Go.RowKit Go.Lib
attribute [local go_sem ↓] Go.wp_at_zero Go.wp_at_succ
theorem LV {P:Pv}{f:PR}{args:Array Oe}{w:Oc}{n:Nat}{v:Oe}(h:Calls P f args (w.drewN n) fun e w'=>e=RR v∧w.drewN n=w'):Calls P f args (w.drewN n) fun e w''=>e=RR v∧∃m,w''=w.drewN m:=
 Calls.quiet_of_same (h.mono fun _ _ ⟨a,b⟩=>⟨a,b.symm⟩)
structure UpIn (w:Oc)(B0 g:Nat)(q:zW)(x:Acc)(gv:Nat)(qv:xa)(v:yI)(zs:Ob (Int×zR)):Prop where
 at_:zH w g q x
 small:Qt x
 view:yN w gv qv v
 vlen:v.l.length≤16777216
 perm:zs.Perm (vW x.zC v.box)
 rise:(zs.map (·.1)).Pairwise (· < ·)
 zlen:zs.length≤4294967296
 N8:∀z∈zs,NY z
 muid:∀m∈v.l,m.uid≤9223372036854775807
 base:B0≤w.heap.size
 own:∀k∈qv.own gv,B0≤k
 tens:∀W,Od B0 w W→Vm W
def UpOut (w:Oc)(gv:Nat)(qv:xa)(r:yx×yI)(e:Ending)(w':Oc):Prop:=e=RR (RP ⟨r.1.toArray⟩)∧∃q',xc w w' gv qv r.2 q'
theorem Jm (w:Oc)(B0 g:Nat)(q:zW)(x:Acc)(gv:Nat)(qv:xa)(v:yI)(zs:Ob (Int×zR))(all:Bool)(h:UpIn w B0 g q x gv qv v zs) :
  C 12 #[Y gv 0,Y g 0,.bool all] w (UpOut w gv qv (yH yq zs v all)):=by
 obtain⟨s,hs⟩:∃s,w.heap.size=s:=⟨_,rfl⟩
 have es:=fun W (y:Od w w W)=>VX W g q x (h.at_.later y) h.small v.box zs h.perm h.rise (by have:=h.zlen;omega)
 have e9:=bld_new w
 have ee:∀W,Od w w W→W.cell? (Y gv 0)=some (I v.box):=fun W y=>(h.view.later y).blk.cell 0
 have f5:=V es
 have b4:=V e9
 have ew:=V ee
 have H:=V h
 have cn:=V (zt w (.cells #[RQ none,RO none 0 0] 97))
 have y0:=ew.o _ cn.o
 have dx:=V hs
 clear es e9 ee h
 go_enter func12,ntmps12
 go_upto_block 0 with(first
  |(go_at_call 33;refine(f5.o _ cn.o).mono ?_;rintro e w2 ⟨nv,l,rfl,k1,k2,k3⟩;obtain⟨A9,T,rfl,_,_⟩:=k2.rd.form;have K1:=V k1;have K2:=V k2;have K3:=V k3;clear k1 k2 k3)
  |fail)
 obtain⟨S,ba⟩:∃S,w2.heap.size=S:=⟨_,rfl⟩
 obtain⟨wo,dj⟩:∃wo:Oc,wo=w2.alloc (.cells #[RO A9 l.length T] 79):=⟨_,rfl⟩
 have ed:NU w wo gv qv qv v [] s S (RO A9 l.length T) l:=by
  have f9:=zj cn.o K3.o
  rw[dj]
  have h7:=b4.o
  rw[dx.o] at h7
  refine⟨(xc.refl H.o.view).then (zj f9 (zt _ _)),?_,?_,K2.o.later (zt _ _)⟩
  ·rw[dx.o]
   exact(h7.later K3.o).later (zt _ _)
  ·rw[←ba]
   exact NG.new _ _ _
 have bo:=V ed
 try rw[ba]
 try rw[←dj]
 clear ed dj ba y0 hs
 obtain⟨r,eh⟩:∃r,r=(if all then v.l.filter (N6 zs) else v.l):=⟨_,rfl⟩
 obtain⟨t1,el⟩:∃t1,t1=(if all then YF (N6 zs) 0 v.l else []):=⟨_,rfl⟩
 have be:=V eh
 have c5:=V el
 obtain⟨K,cb⟩:∃K,l.length=K:=⟨_,rfl⟩
 have qp:=V cb
 rw[cb] at bo
 try rw[cb]
 clear eh el cb
 go_cut [] (fun wx=>∃q1,Z (NU w wx gv qv q1 ⟨v.box,r,v.had⟩ t1 s S (RO A9 K T) l))
 case first=>
  cases all with
  |false=>
   go_wp2_with fail
   go_loopw [11] (fun i wr=>i=I 0∧Z (NU w wr gv qv qv v [] s S (RO A9 K T) l)) (fun _ _=>0)
   case atStart=>exact⟨rfl,bo⟩
   case round=>
    obtain⟨rfl,A⟩:=hrel
    have HF:Z (NU w wr gv qv qv ⟨v.box,r,v.had⟩ t1 s S (RO A9 K T) l):=V (by
     have e1:=be.o
     have e2:=c5.o
     simp only[Px,if_false] at e1 e2
     rw[e1,e2]
     exact A.o)
    go_wp2_with fail
    go_meet
    exact⟨_,HF⟩
  |true=>
   go_wp2_with fail
   go_loopw [11] (fun i wr=>∃(i0:Nat) (L:Ob NL) (t:yx) (q1:xa),i=I i0∧Z (Vl (N6 zs) v.l L i0 t)∧Z (NU w wr gv qv q1 ⟨v.box,L,v.had⟩ t s S (RO A9 K T) l)) (fun i wr=>jK wr gv - (intOf i).toNat)
   case atStart=>exact⟨0,v.l,[],qv,rfl,V (Vl.start _ _),bo⟩
   case round=>
    clear bo
    obtain⟨i0,L,t,q1,rfl,HG,A⟩:=hrel
    obtain⟨Am,cm,a0,_,_⟩:=A.o.turned.at_.msgs.form
    obtain⟨D,U⟩:∃D,L.length=D:=⟨_,rfl⟩
    have c1:wr.cell? (Y gv 1)=some (RO Am D cm):=by
     have B:=A.o.turned.at_.blk.cell 1
     rw[B,←U]
     exact congrArg some a0
    have fm:(0:Int)≤(i0:Int):=O
    have fg:D≤4294967296:=by
     have B:=HG.o.small
     have h2:=H.o.vlen
     omega
    have fp:i0≤D:=by rw[←U];exact HG.o.le
    have a7:=V U
    by_cases af:i0 < D
    ·have av:(i0:Int) < (D:Int):=O
     have fn:Ov.wrap ((i0:Int)+1)=(i0:Int)+1:=Og _ O
     have G:q1.vl=RO Am D cm:=by rw[←U];exact a0
     obtain⟨bm,om,mm,hi1,hi2,cy,fa,al,ar,d0,d1,d2⟩:=A.o.turned.at_.msg (v:=⟨v.box,L,v.had⟩) U G i0 af
     subst cy
     have ej:K≤4294967296:=by
      have B:=H.o.zlen
      rw[←K1.o,Ow,qp.o] at B
      exact B
     have f:=fun W (y:Od wr wr W)=>iQ W mm.p mm.t S (RO A9 K T) l ((A.o.later y).box.cell 0) (A.o.later y).box.lt (A.o.later y).there (by rw[qp.o];omega)
     have bt:N6 zs (L[i0]'hi2)=(l.find? fun z=>N7 mm.p z.z).isSome:=by
      have B:(L[i0]'hi2)=mm.p:=ar
      unfold N6
      rw[B,←K1.o,AZ]
      cases l.find? (fun z=>N7 mm.p z.z) <;> rfl
     have eb:Z (q1.ms[i0]'hi1=mm):=V al
     have du:Z (jK wr gv=L.length):=V A.o.turned.at_.jK
     unfold Qi at f
     obtain⟨fo,a8⟩:∃fo,l.find? (fun z=>N7 mm.p z.z)=fo:=⟨_,rfl⟩
     rw[a8] at bt
     simp only[a8] at f
     obtain⟨⟨mu,mi,mt⟩,tt⟩:=mm
     cases fo with
     |some z=>
      obtain⟨zu,⟨zi,Q,R,N,zk,ac,d,P⟩,za,zc,zb,zd⟩:=z
      simp only[vI,xV,NQ.m,Qh] at f
      obtain⟨nk,a1⟩:∃nk,zk.length=nk:=⟨_,rfl⟩
      obtain⟨nm,a6⟩:∃nm,ac.length=nm:=⟨_,rfl⟩
      rw[a1,a6] at f
      have bd:=V (HG.o.keep hi2 bt)
      have aa:=V (f wr (Ok _ _))
      clear f bt a8 ar al a0 G U a1 a6 eb
      go_wp2_with (first
       |(go_at_call 43;refine aa.o.mono ?_;rintro e w5 ⟨rfl,M⟩;have cu:=V ((A.o.later M).later (zt w5 (.cells #[I zu,I zi,I Q,Oa R,I N,RO za nk zc,RO zb nm zd,I d,I P] 85)));clear M)
       |fail)
      refine⟨?_,?_⟩
      ·first|exact⟨i0+1,L,t,q1,zE,bd,cu⟩|((repeat apply OA);exact⟨⟨i0+1,L,t,q1,zE,bd,cu⟩,rfl⟩)
      ·have e1:=cu.o.turned.at_.jK
       have e2:=du.o
       have e3:=a7.o
       rw[e2,e1]
       simp[intOf]
       omega
     |none=>
      simp only[rI] at f
      have bd:=V (HG.o.drop hi2 bt)
      have aa:=V (f wr (Ok _ _))
      have em:t.length≤1099511627776:=by
       have B:=congrArg List.length HG.o.text
       rw[Oo] at B
       have h2:=Yl (N6 zs) v.l 0 (by have:=H.o.vlen;omega)
       have h3:=H.o.vlen
       omega
      have ap:Z (∀W X,Od wr wr W→NG W X 9 #[Oa xe]→C 39 #[I ((i0:Int)+1),RO (some (Y X 0)) 1 1,Y s 0] W fun e w'=>e=RR (.tuple #[])∧NU w w' gv qv q1 ⟨v.box,L,v.had⟩ (t++VT ((i0:Int)+1) xe) s S (RO A9 K T) l):=V (fun W X y hX=>by
       have hu:=A.o.later y
       have B:=oA W ((i0:Int)+1) O _ 1 [xe] rfl O O (ro hX) w.heap.size s t hu.bld hu.turned.N4.size em (by rw[Lib.join_one];decide) (H.o.tens W (hu.below H.o.base H.o.own))
       rw[Lib.join_one] at B
       refine B.mono ?_
       rintro e w' ⟨rfl,k1,k2,k3⟩
       exact⟨rfl,hu.said k1 k2 k3⟩)
      have ex:Z (∀W (tx:yx),NU w W gv qv q1 ⟨v.box,L,v.had⟩ tx s S (RO A9 K T) l→W.cell? (Y gv 1)=some (RO (some (Y bm om)) D cm)):=V (fun W tx hu=>by
       rw[hu.turned.at_.blk.cell 1,←G]
       rfl)
      have dr:Z (∀W,NU w W gv qv q1 ⟨v.box,L,v.had⟩ (t++VT ((i0:Int)+1) xe) s S (RO A9 K T) l→C 46 #[RO (some (Y bm om)) D cm,I i0,I ((i0:Int)+1)] W fun e w9=>∃b2 b8,e=RR (RO b2 (D - 1) b8)∧w9.cell? (Y gv 1)=some (RO (some (Y bm om)) D cm)∧w9.frozen? (Y gv 1)=false∧∃q2,Z (NU w (w9.setCell (Y gv 1) (RO b2 (D - 1) b8)) gv qv q2 ⟨v.box,L.eraseIdx i0,v.had⟩ (t++VT ((i0:Int)+1) xe) s S (RO A9 K T) l)):=V (fun W hu=>by
       have hv:=hu.turned.at_
       have ek:=hv.msgs
       rw[show (⟨v.box,L,v.had⟩:yI).l.length=D from U,G] at ek
       refine(KC W _ q1.hl D _ ek (XQ sy _) O i0 af).mono ?_
       rintro e w9 ⟨v9,rfl,k1,k2⟩
       obtain⟨b2,b8,rfl,_,_⟩:=k1.form
       have fc:gv∉q1.hl.toList:=fun hm=>hv.Nx yT
       have ba:=hv.blk.N4 k2 fc
       have au:(q1.ms.eraseIdx i0).length=D - 1:=by
        rw[Pq hi1,hv.len]
        exact congrArg (· - 1) U
       have cj:=yN.fD hv (q1.ms.eraseIdx i0) (fun m hm=>List.mem_of_mem_eraseIdx hm) ((List.Sublist.map _ (List.eraseIdx_sublist ..)).nodup hv.nodup) (v2:=RO b2 (D - 1) b8) (w':=w9) (by rw[au,mN];exact k1) k2
       have ei:(q1.ms.eraseIdx i0).map (·.p)=L.eraseIdx i0:=by
        rw[Ux,hv.same]
       rw[ei] at cj
       refine⟨b2,b8,rfl,?_,ba.frozen 1,_,V (hu.turn cj)⟩
       rw[ba.cell 1,←G]
       rfl)
      clear f bt a8 ar al a0 G U em eb
      go_wp2_with (first
       |(go_at_call 43;refine aa.o.mono ?_;rintro e w5 ⟨rfl,M⟩;have je:=V (zj (zj M (zt w5 (.cells #[I 0,I 0,I 0,RP ⟨#[]⟩,I 0,RO none 0 0,RO none 0 0,I 0,I 0] 85))) (zt _ (.cells #[RP ⟨#[69,88,80,85,78,71,69]⟩] 9)));have f6:Z (NG ((w5.alloc (.cells #[I 0,I 0,I 0,RP ⟨#[]⟩,I 0,RO none 0 0,RO none 0 0,I 0,I 0] 85)).alloc (.cells #[RP ⟨#[69,88,80,85,78,71,69]⟩] 9)) (w5.heap.size+1) 9 #[Oa xe]):=V (by have B:=NG.new (w5.alloc (.cells #[I 0,I 0,I 0,RP ⟨#[]⟩,I 0,RO none 0 0,RO none 0 0,I 0,I 0] 85)) 9 #[Oa xe];rw[O3] at B;exact B);clear M)
       |(go_at_call 39;refine(ap.o _ _ je.o f6.o).mono ?_;rintro e w8 ⟨rfl,bb⟩;have c8:=ex.o _ _ bb;have cv:=V bb;clear bb)
       |(go_at_call 46;refine(dr.o _ cv.o).mono ?_;rintro e w9 ⟨b2,b8,rfl,y9,z9,q2,b6⟩)
       |fail)
      refine⟨?_,?_⟩
      ·first|exact⟨i0,L.eraseIdx i0,_,q2,rfl,bd,b6⟩|((repeat apply OA);exact⟨⟨i0,L.eraseIdx i0,_,q2,rfl,bd,b6⟩,rfl⟩)
      ·have e1:=b6.o.turned.at_.jK
       have e2:=du.o
       have e3:=a7.o
       have e4:=Pq hi2
       rw[e2,e1]
       simp[intOf]
       omega
    ·have av:¬(i0:Int) < (D:Int):=O
     have HF:Z (NU w wr gv qv q1 ⟨v.box,r,v.had⟩ t1 s S (RO A9 K T) l):=V (by
      have e1:=be.o
      have e2:=c5.o
      obtain⟨g1,g2⟩:=HG.o.done (by rw[U];exact af)
      simp only[if_true] at e1 e2
      rw[e1,e2,←g1,←g2]
      exact A.o)
     clear U a0
     go_wp2_with fail
     go_meet
     exact⟨_,HF⟩
 case rest=>
  clear bo
  obtain⟨q1,A⟩:=hcut
  obtain⟨w1,rfl⟩:∃w1:Oc,w1=wc:=⟨_,rfl⟩
  obtain⟨Am,cm,a0,_,_⟩:=A.o.turned.at_.msgs.form
  obtain⟨D,U⟩:∃D,r.length=D:=⟨_,rfl⟩
  have G:q1.vl=RO Am D cm:=by rw[←U];exact a0
  have c1:w1.cell? (Y gv 1)=some (RO Am D cm):=by
   rw[A.o.turned.at_.blk.cell 1,←G]
   rfl
  have fg:D≤16777216:=by
   have h2:=H.o.vlen
   have B:=be.o
   rw[←U,B]
   split
   ·exact Ol (List.length_filter_le _ _) h2
   ·exact h2
  have ch:∀m∈r,m.uid≤9223372036854775807:=fun m hm=>by
   have B:=be.o
   rw[B] at hm
   split at hm
   ·exact H.o.muid m (OZ.1 hm).1
   ·exact H.o.muid m hm
  have ck:t1.length≤274877906944:=by
   have B:=c5.o
   have h2:=H.o.vlen
   have h3:=Yl (N6 zs) v.l 0 O
   rw[B]
   split
   ·omega
   ·simp
  have ej:K≤4294967296:=by
   have B:=H.o.zlen
   rw[←K1.o,Ow,qp.o] at B
   exact B
  have a7:=V U
  have bh:=V ch
  have ce:=V ck
  have c':Z (NU w w1 gv qv q1 ⟨v.box,(r.take 0).map (xi zs)++r.drop 0,v.had⟩ (t1++xU yq zs 0 (r.take 0)) s S (RO A9 K T) l):=V (by
   simp only[List.take_zero,List.map_nil,List.drop_zero,PE,xU,Pr]
   exact A.o)
  have cw:=V G
  clear a0 U G ch ck A
  go_upto_block 2 with(fail)
  go_cut [] (fun wx=>∃q2,Z (NU w wx gv qv q2 ⟨v.box,r.map (xi zs),v.had⟩ (t1++xU yq zs 0 r) s S (RO A9 K T) l))
  case first=>
   go_wp2_with fail
   go_loopw [78] (fun i wr=>∃(k:Nat) (q2:xa),k≤D∧i=I k∧Z (NU w wr gv qv q2 ⟨v.box,(r.take k).map (xi zs)++r.drop k,v.had⟩ (t1++xU yq zs 0 (r.take k)) s S (RO A9 K T) l)∧Z (q2.vl=RO Am D cm)) (fun i _=>D - (intOf i).toNat)
   case atStart=>exact⟨0,q1,OE _,rfl,c',cw⟩
   case round=>
    clear c' cw c1
    obtain⟨k,q2,hk,rfl,A,b7⟩:=hrel
    by_cases af:k < D
    ·have av:(k:Int) < (D:Int):=O
     have fd:(0:Int)≤(k:Int):=O
     have ff:Ov.wrap ((k:Int)+1)=(k:Int)+1:=Og _ O
     have jb:k < r.length:=by rw[a7.o];exact af
     have ag:((r.take k).map (xi zs)++r.drop k).length=D:=by rw[Jk,a7.o]
     obtain⟨bm,om,mm,hi1,hi2,cy,fa,al,ar,d0,d1,d2⟩:=A.o.turned.at_.msg (v:=⟨v.box,(r.take k).map (xi zs)++r.drop k,v.had⟩) ag b7.o k af
     subst cy
     have a5:r[k]=mm.p:=(Vj jb hi2).symm.trans ar
     have f:=fun W (y:Od wr wr W)=>iQ W mm.p mm.t S (RO A9 K T) l ((A.o.later y).box.cell 0) (A.o.later y).box.lt (A.o.later y).there (by rw[qp.o];omega)
     have az:YE zs mm.p=(l.find? fun z=>N7 mm.p z.z).map NQ.z:=by rw[←K1.o,AZ]
     have a4:NG wr mm.t 145 #[I mm.p.told]:=by
      rw[←al]
      exact A.o.turned.at_.told _ (Oj hi1)
     have am:=bh.o mm.p (by rw[←a5];exact Oj jb)
     unfold Qi at f
     obtain⟨fo,a8⟩:∃fo,l.find? (fun z=>N7 mm.p z.z)=fo:=⟨_,rfl⟩
     rw[a8] at az
     simp only[a8] at f
     obtain⟨⟨mu,mi,mt⟩,tt⟩:=mm
     have Ih:=V (zt wr (.cells #[I mu,I mi,Y tt 0] 89))
     have aa:=V (f _ Ih.o)
     have a2:∀W,Od wr wr W→xU yq zs k [r[k]]=[]∧xi zs r[k]=r[k]→NU w W gv qv q2 ⟨v.box,(r.take (k+1)).map (xi zs)++r.drop (k+1),v.had⟩ (t1++xU yq zs 0 (r.take (k+1))) s S (RO A9 K T) l:=fun W y ⟨e1,e2⟩=>by
      rw[Qc jb e2,VV jb,e1,Pr]
      exact A.o.later y
     cases fo with
     |none=>
      simp only[rI] at aa
      have bk:Z (∀W,Od wr wr W→NU w W gv qv q2 ⟨v.box,(r.take (k+1)).map (xi zs)++r.drop (k+1),v.had⟩ (t1++xU yq zs 0 (r.take (k+1))) s S (RO A9 K T) l):=V (fun W y=>a2 W y (by rw[a5];exact lK k az))
      clear f a8 az ar al a2 a4 a5 ag jb hi1 hi2 am
      go_wp2_with (first
       |(go_at_call 43;refine aa.o.mono ?_;rintro e w5 ⟨rfl,M⟩;have je:=V (zj (zj Ih.o M) (zt w5 (.cells #[I 0,I 0,I 0,RP ⟨#[]⟩,I 0,RO none 0 0,RO none 0 0,I 0,I 0] 85)));clear M)
       |fail)
      go_quiet (fail)
      go_wp2_with fail
      refine⟨?_,zV⟩
      first|exact⟨k+1,q2,O,zE,V (bk.o _ (zO je.o _)),b7⟩|((repeat apply OA);exact⟨⟨k+1,q2,O,zE,V (bk.o _ (zO je.o _)),b7⟩,rfl⟩)
     |some z=>
      have an:=O2 a8
      have c3:NY z.z:=H.o.N8 z.z (by rw[←K1.o];exact OV an)
      have a9:=fun W (y:uY W (RO A9 K T) l)=>(y.parts z an).keys
      obtain⟨zu,⟨zi,Q,R,N,zk,ac,d,P⟩,za,zc,zb,zd⟩:=z
      simp only[vI,xV,NQ.m,Qh] at aa a9
      obtain⟨nk,a1⟩:∃nk,zk.length=nk:=⟨_,rfl⟩
      obtain⟨nm,a6⟩:∃nm,ac.length=nm:=⟨_,rfl⟩
      rw[a1,a6] at aa
      rw[a1] at a9
      have df:=fun W (y:Od wr wr W)=>JQ tt 0 mt W ((a4.below y a4.lt).cell 0)
      have dt:=V df
      have ao:=V (NG.new wr 89 #[I mu,I mi,Y tt 0])
      have bl:=V a4
      obtain⟨M0,bp⟩:∃M0,wr.heap.size=M0:=⟨_,rfl⟩
      rw[bp] at ao
      by_cases hc:mt < d
      ·have bs:decide (mt < d)=true:=OS hc
       obtain⟨e7,e8⟩:=rE (flags:=yq) k az hc
       have cl:∀W,Od wr wr W→∃q3,NU w (W.setCell (Y tt 0) (I d)) gv qv q3 ⟨v.box,(r.take (k+1)).map (xi zs)++r.drop (k+1),v.had⟩ (t1++xU yq zs 0 (r.take k)) s S (RO A9 K T) l∧q3.vl=RO (some (Y bm om)) D cm:=fun W y=>by
        have hu:=A.o.later y
        have B:=hu.turned.at_.Q5 k hi1 hi2 d
        rw[al] at B
        refine⟨⟨q2.hl,q2.vl,q2.ms.set k ((⟨⟨mu,mi,mt⟩,tt⟩:bV).set d)⟩,?_,?_⟩
        ·have h2:=hu.turn B
         have e3:(r.take (k+1)).map (xi zs)++r.drop (k+1)=((r.take k).map (xi zs)++r.drop k).set k {((r.take k).map (xi zs)++r.drop k)[k]'hi2 with told:=d}:=by
          rw[VU jb,Vj jb hi2,a5]
          exact congrArg _ e8
         rw[e3]
         exact h2
        ·exact b7.o
       have en:∀tx,tx=XK yq k mu ⟨zi,Q,R,N,zk,ac,d,P⟩→(t1++xU yq zs 0 (r.take k))++tx=t1++xU yq zs 0 (r.take (k+1)):=fun tx e=>by
        rw[VV jb,a5,e7,e,O4]
        rfl
       have b':(t1++xU yq zs 0 (r.take k)).length≤1099511627776:=by
        have B:=ce.o
        have h2:=Y1 (fun z hz=>H.o.N8 z hz) (r.take k) 0 (fun m hm=>bh.o m (List.mem_of_mem_take hm)) Zh
        have h3:(r.take k).length≤16777216:=Zh
        rw[Oo]
        omega
       have d':=V cl
       clear cl
       have f4:=V en
       have f2:=V b'
       have aq:=V c3
       have cp:=V a9
       have bi:=V am
       have co:=V a1
       clear f a8 az ar al a2 a4 a5 ag jb hi1 hi2 am an c3 a9 a1 a6 df hc en b' e7 e8
       go_upto_region 18 with(first
        |(go_at_call 43;refine aa.o.mono ?_;rintro e w5 ⟨rfl,M⟩;have je:=V M;clear M)
        |fail)
       obtain⟨T0,aw⟩:∃T0,w5.heap.size=T0:=⟨_,rfl⟩
       obtain⟨w6,Ig⟩:∃w6:Oc,w6=w5.alloc (.cells #[I zu,I zi,I Q,Oa R,I N,RO za nk zc,RO zb nm zd,I d,I P] 85):=⟨_,rfl⟩
       have b3:Z (Od wr wr w6):=V IV
       have a':Z (NG w6 M0 89 #[I mu,I mi,Y tt 0]):=V (by rw[Ig];exact(ao.o.below je.o ao.o.lt).alloc _)
       have b0:Z (NG w6 T0 85 #[I zu,I zi,I Q,Oa R,I N,RO za nk zc,RO zb nm zd,I d,I P]):=V (by rw[Ig,←aw];exact NG.new _ _ _)
       rw[←Ig]
       try rw[aw]
       try rw[bp]
       have m2:w6.cell? (Y M0 2)=some (RQ (some (Y tt 0))):=a'.o.cell 2
       have y7:w6.cell? (Y T0 7)=some (I d):=b0.o.cell 7
       have b1:=fun n=>dt.o (w6.drewN n) (zO b3.o n)
       clear Ig aw bp
       have dv:Z (∀n,C 48 #[Y tt 0,I d] (w6.drewN n) fun e wq=>e=RR (.tuple #[])∧(∃q3,NU w wq gv qv q3 ⟨v.box,(r.take (k+1)).map (xi zs)++r.drop (k+1),v.had⟩ (t1++xU yq zs 0 (r.take k)) s S (RO A9 K T) l∧q3.vl=RO (some (Y bm om)) D cm)∧NG wq M0 89 #[I mu,I mi,Y tt 0]∧NG wq T0 85 #[I zu,I zi,I Q,Oa R,I N,RO za nk zc,RO zb nm zd,I d,I P]):=V (fun n=>by
        have y:=zO b3.o n
        have ht:=bl.o.below y bl.o.lt
        refine(Z6 tt 0 mt d (w6.drewN n) (ht.cell 0) (ht.frozen 0)).mono ?_
        rintro e wq ⟨rfl,hw⟩
        rw[hw]
        have kM:NG (w6.drewN n) M0 89 #[I mu,I mi,Y tt 0]:=a'.o.heap zF
        have kT:NG (w6.drewN n) T0 85 #[I zu,I zi,I Q,Oa R,I N,RO za nk zc,RO zb nm zd,I d,I P]:=b0.o.heap zF
        exact⟨rfl,d'.o _ y,kM.far (p:=⟨tt,0,none⟩) (kM.ne ht zD) _,kT.far (p:=⟨tt,0,none⟩) (kT.ne ht zD) _⟩)
       go_quiet ((go_at_call 47;exact LV (b1 _)))
       clear b1
       go_upto_region 20 with(first
        |(go_at_call 48;refine(dv.o _).mono ?_;rintro e wq ⟨rfl,⟨q3,ep,ab⟩,kM,kT⟩;have ct:=V ep;have e0:=V ab;have c4:=V kM;have b5:=V kT;clear ep ab kM kT)
        |fail)
       obtain⟨D1,cz⟩:∃D1,XD mu=D1:=⟨_,rfl⟩
       obtain⟨D2,c6⟩:∃D2,XD d=D2:=⟨_,rfl⟩
       obtain⟨F,hF⟩:∃F,yq zk=F:=⟨_,rfl⟩
       have bz:∀W,Od wq wq W→Vm W:=fun W y=>H.o.tens W ((ct.o.later y).below H.o.base H.o.own)
       have dc:=fun W (y:Od wq wq W)=>UZ mu bi.o W (bz W y)
       have dd:=fun W (y:Od wq wq W)=>UZ d aq.o.mod W (bz W y)
       have dg:=fun W (y:Od wq wq W)=>K8 W (RO za nk zc) nk zk co.o (by rw[←co.o];exact aq.o.few) (cp.o W (ct.o.later y).there) aq.o.short
       have ea:(40 :: J zk nk++[41])=F:=by rw[←hF,←co.o];rfl
       rw[cz] at dc
       rw[c6] at dd
       simp only[ea] at dg
       have ci:∀W X,Od wq wq W→NG W X 9 #[Oa Vv,Oa D1,Oa Vw,Oa F,Oa (77 :: 79 :: 68 :: 83 :: 69 :: 81 :: 32 :: 40 :: (D2++[41,41]))]→C 39 #[I ((k:Int)+1),RO (some (Y X 0)) 5 5,Y s 0] W fun e w'=>e=RR (.tuple #[])∧NU w w' gv qv q3 ⟨v.box,(r.take (k+1)).map (xi zs)++r.drop (k+1),v.had⟩ (t1++xU yq zs 0 (r.take (k+1))) s S (RO A9 K T) l∧w'.cell? (Y M0 0)=some (I mu)∧w'.cell? (Y T0 5)=some (RO za nk zc)∧w'.cell? (Y T0 7)=some (I d):=fun W X y hX=>by
        have hu:=ct.o.later y
        have et:[Vv,D1,Vw,F,77 :: 79 :: 68 :: 83 :: 69 :: 81 :: 32 :: 40 :: (D2++[41,41])]=XN mu ⟨zi,Q,R,N,zk,ac,d,P⟩:=by
         unfold XN
         rw[cz,←c6,←hF]
         simp[LS]
        have B:=oA W ((k:Int)+1) O _ 5 [Vv,D1,Vw,F,77 :: 79 :: 68 :: 83 :: 69 :: 81 :: 32 :: 40 :: (D2++[41,41])] rfl O O (sH hX) w.heap.size s _ hu.bld hu.turned.N4.size f2.o (by rw[et];have:=QG aq.o mu bi.o;exact Ol this O) (H.o.tens W (hu.below H.o.base H.o.own))
        rw[et] at B
        refine B.mono ?_
        rintro e w' ⟨rfl,k1,k2,k3⟩
        have eo:=hu.said k1 k2 k3
        rw[f4.o _ (U2 k mu ⟨zi,Q,R,N,zk,ac,d,P⟩).symm] at eo
        have kM:=k3.block _ _ _ JA (c4.o.below y c4.o.lt)
        have kT:=k3.block _ _ _ JA (b5.o.below y b5.o.lt)
        exact⟨rfl,eo,kM.cell 0,kT.cell 5,kT.cell 7⟩
       have hK:∀W,Od wq wq W→W.cell? (Y M0 0)=some (I mu)∧W.cell? (Y T0 5)=some (RO za nk zc)∧W.cell? (Y T0 7)=some (I d):=fun W y=>⟨(c4.o.below y c4.o.lt).cell 0,(b5.o.below y b5.o.lt).cell 5,(b5.o.below y b5.o.lt).cell 7⟩
       have ef:D2.length≤21:=by rw[←c6];exact Yi d aq.o.mod
       have n1:¬9223372036854775807 < 8+D2.length:=O
       have n2:¬9223372036854775807 < 8+D2.length+2:=O
       have n3:¬9223372036854775807 < D2.length+8+2:=O
       have n4:¬9223372036854775807 < D2.length+10:=O
       have n5:¬9223372036854775807 < D2.length+1+1+1+1+1+1+1+1+2:=O
       have f8:∀a b:Ob Oz,PK a.toArray++PK b.toArray=PK (a++b).toArray:=fun a b=>Pj a b
       have ey:=V dc
       have ez:=V dd
       have f1:=V dg
       have ap:=V ci
       have HK:=V hK
       clear dc dd dg ci hK bz cz c6 hF ea m2 y7 d0 d1 d2
       go_region_held3 (fun W=>W.cell? (Y M0 0)=some (I mu)∧W.cell? (Y T0 5)=some (RO za nk zc)∧W.cell? (Y T0 7)=some (I d))
        (first
         |exact e'.o
         |exact HK.o _ (zj b4.o (zt _ _))
         |exact HK.o _ b4.o
         |exact HK.o _ ae.o
         |exact HK.o _ ad.o
         |exact HK.o _ (zj b4.o (zG _))
         |exact HK.o _ (zj ae.o (zG _))
         |exact HK.o _ (zj ad.o (zG _))
         |exact HK.o _ (Ok _ _)
         |exact HK.o _ (zG _)
         |go_keep)
        (first
         |(go_at_call 39;refine(ap.o _ _ (zj b4.o (zt _ _)) (NG.new _ _ _)).mono ?_;rintro e w9 ⟨rfl,er,eg⟩;have b6:=V er;have e':=V eg;clear er eg)
         |(go_at_call 41;(with_reducible refine(ez.o _ (by first|exact ae.o|exact zj ae.o (zG _))).mono ?_);rintro e w7 ⟨rfl,da⟩;have b4:Z (Od wq wq w7):=V (by first|exact zj ae.o da|exact zj (zj ae.o (zG _)) da);clear da)
         |(go_at_call 49;refine(f1.o _ (by first|exact ad.o|exact zj ad.o (zG _))).mono ?_;rintro e fi ⟨rfl,d9⟩;have ae:Z (Od wq wq fi):=V (by first|exact zj ad.o d9|exact zj (zj ad.o (zG _)) d9);clear d9)
         |(go_at_call 41;(with_reducible refine(ey.o _ uO).mono ?_);rintro e fh ⟨rfl,M⟩;have ad:Z (Od wq wq fh):=V (by first|exact M|exact zj (zG wq) M);clear M)
         |fail)
       all_goals
        clear n1 n2 n3 n4 n5 f8 ef
        go_wp2_with fail
        refine⟨?_,zV⟩
        first|exact⟨k+1,q3,O,zE,b6,e0⟩|((repeat apply OA);exact⟨⟨k+1,q3,O,zE,b6,e0⟩,rfl⟩)
      ·have bs:decide (mt < d)=false:=OD hc
       have bk:Z (∀W,Od wr wr W→NU w W gv qv q2 ⟨v.box,(r.take (k+1)).map (xi zs)++r.drop (k+1),v.had⟩ (t1++xU yq zs 0 (r.take (k+1))) s S (RO A9 K T) l):=V (fun W y=>a2 W y (by rw[a5];exact lL k az hc))
       clear f a8 az ar al a2 a4 a5 ag jb hi1 hi2 am an c3 a9 a1 a6 df hc
       go_upto_region 18 with(first
        |(go_at_call 43;refine aa.o.mono ?_;rintro e w5 ⟨rfl,M⟩;have je:=V M;clear M)
        |fail)
       obtain⟨T0,aw⟩:∃T0,w5.heap.size=T0:=⟨_,rfl⟩
       obtain⟨w6,Ig⟩:∃w6:Oc,w6=w5.alloc (.cells #[I zu,I zi,I Q,Oa R,I N,RO za nk zc,RO zb nm zd,I d,I P] 85):=⟨_,rfl⟩
       have b3:Z (Od wr wr w6):=V IV
       have a':Z (NG w6 M0 89 #[I mu,I mi,Y tt 0]):=V (by rw[Ig];exact(ao.o.below je.o ao.o.lt).alloc _)
       have b0:Z (NG w6 T0 85 #[I zu,I zi,I Q,Oa R,I N,RO za nk zc,RO zb nm zd,I d,I P]):=V (by rw[Ig,←aw];exact NG.new _ _ _)
       rw[←Ig]
       try rw[aw]
       try rw[bp]
       have m2:w6.cell? (Y M0 2)=some (RQ (some (Y tt 0))):=a'.o.cell 2
       have y7:w6.cell? (Y T0 7)=some (I d):=b0.o.cell 7
       have b1:=fun n=>dt.o (w6.drewN n) (zO b3.o n)
       clear Ig aw bp
       go_quiet ((go_at_call 47;exact LV (b1 _)))
       go_wp2_with fail
       refine⟨?_,zV⟩
       first|exact⟨k+1,q2,O,zE,V (bk.o _ (zO b3.o _)),b7⟩|((repeat apply OA);exact⟨⟨k+1,q2,O,zE,V (bk.o _ (zO b3.o _)),b7⟩,rfl⟩)
    ·have av:¬(k:Int) < (D:Int):=O
     have de:k=D:=O
     subst de
     have cg:NU w wr gv qv q2 ⟨v.box,r.map (xi zs),v.had⟩ (t1++xU yq zs 0 r) s S (RO A9 K T) l:=by
      have B:=A.o
      rw[Ou (by rw[a7.o];exact Oq _),List.drop_of_length_le (by rw[a7.o];exact Oq _),Pr] at B
      exact B
     have ds:=V cg
     clear cg
     go_wp2_with fail
     go_meet
     exact⟨_,ds⟩
  case rest=>
   clear c' cw c1
   obtain⟨q2,A⟩:=hcut
   obtain⟨w3,rfl⟩:∃w3:Oc,w3=wc:=⟨_,rfl⟩
   obtain⟨l2,ca⟩:∃l2,r.map (xi zs)=l2:=⟨_,rfl⟩
   obtain⟨T2,c7⟩:∃T2,t1++xU yq zs 0 r=T2:=⟨_,rfl⟩
   rw[ca,c7] at A
   have bu:l2.length=D:=by rw[←ca,Ow,a7.o]
   have cf:T2.length≤1099511627776:=by
    have B:=ce.o
    have h2:=Y1 (fun z hz=>H.o.N8 z hz) r 0 bh.o (by rw[a7.o];omega)
    have h3:=a7.o
    rw[←c7,Oo]
    omega
   have f0:=V ca
   have f3:=V c7
   have cc:=V bu
   have dy:=V cf
   obtain⟨dl,e6,a0,_,_⟩:=A.o.turned.at_.msgs.form
   have G:q2.vl=RO dl D e6:=by rw[←bu];exact a0
   have c1:w3.cell? (Y gv 1)=some (RO dl D e6):=by
    rw[A.o.turned.at_.blk.cell 1,←G]
    rfl
   have c2:w3.cell? (Y gv 2)=some (I v.had):=A.o.turned.at_.blk.cell 2
   have y9:w3.cell? (Y S 0)=some (RO A9 K T):=A.o.box.cell 0
   have ec:∀n,Z (NU w (w3.drewN n) gv qv q2 (yy v.had (zs.take 0) ⟨v.box,l2,v.had⟩) T2 s S (RO A9 K T) l):=fun n=>V (A.o.later (zO (Ok _ _) n))
   have cq:=V ec
   clear ca c7 bu cf a0 G A ec
   go_upto_region 22 with(fail)
   go_quiet (fail)
   go_upto_block 4 with(fail)
   go_cut [] (fun wx=>∃q3,Z (NU w wx gv qv q3 (yy v.had zs ⟨v.box,l2,v.had⟩) T2 s S (RO A9 K T) l))
   case first=>
    go_wp2_with fail
    go_loopw [135] (fun i wr=>∃(k:Nat) (q3:xa),k≤K∧i=I k∧Z (NU w wr gv qv q3 (yy v.had (zs.take k) ⟨v.box,l2,v.had⟩) T2 s S (RO A9 K T) l)) (fun i _=>K - (intOf i).toNat)
    case atStart=>exact⟨0,q2,OE _,rfl,cq.o _⟩
    case round=>
     clear cq c1 c2 y9
     obtain⟨k,q3,hk,rfl,A⟩:=hrel
     by_cases af:k < K
     ·have av:(k:Int) < (K:Int):=O
      have fd:(0:Int)≤(k:Int):=O
      have ff:Ov.wrap ((k:Int)+1)=(k:Int)+1:=Og _ O
      have jb:k < l.length:=JB
      obtain⟨z,E9⟩:∃z,l[k]=z:=⟨_,rfl⟩
      have dk:zs[k]?=some z.z:=by
       rw[←K1.o,O5,Ot jb,E9]
       rfl
      obtain⟨b,E,fk,hv,_,_,fl,_,aj⟩:=A.o.there.rd.at_ O
      rw[qp.o] at hv aj
      injection hv with ab _ hv4
      subst ab hv4
      have c:∀j,j < 9→wr.cell? (Y b (E+k * 9+j))=(vI z)[j]?:=fun j hj=>by
       exact pd
      have a3:=sP (had:=v.had) (v:=⟨v.box,l2,v.had⟩) dk
      have au:(yy v.had (zs.take k) ⟨v.box,l2,v.had⟩).l.length≤1099511627776:=by
       have B:=Ur (had:=v.had) (zs.take k) ⟨v.box,l2,v.had⟩
       have h2:=cc.o
       have h3:(zs.take k).length≤K:=Zh
       have h4:(⟨v.box,l2,v.had⟩:yI).l.length=D:=h2
       rw[h4] at B
       omega
      have br:=fun W (y:Od wr wr W)=>p6 W gv q3 _ z (A.o.later y).turned.at_ au
      by_cases hc:v.had < z.u
      ·rw[OG (show v.had < z.z.1 from hc)] at a3
       have bc:Z (∀W,Od wr wr W→C 34 #[Y gv 0,.agg (vI z).toArray] W fun e w'=>e=RR (.tuple #[])∧∃q4,Z (NU w w' gv qv q4 (yy v.had (zs.take (k+1)) ⟨v.box,l2,v.had⟩) T2 s S (RO (some (Y b E)) K T) l)):=V (fun W y=>(br W y).mono fun e w' ⟨he,q4,hq4⟩=>⟨he,q4,V (by rw[a3];exact(A.o.later y).turn hq4)⟩)
       obtain⟨zu,⟨zi,Q,R,N,zk,ac,d,P⟩,za,zc,zb,zd⟩:=z
       simp only[vI,xV,NQ.m,Qh] at c bc hc
       obtain⟨nk,a1⟩:∃nk,zk.length=nk:=⟨_,rfl⟩
       obtain⟨nm,a6⟩:∃nm,ac.length=nm:=⟨_,rfl⟩
       rw[a1,a6] at c bc
       have d0:wr.cell? (Y b (E+k * 9))=some (I zu):=c 0 O
       have d1:wr.cell? (Y b (E+k * 9+1))=some (I zi):=c 1 O
       have d2:wr.cell? (Y b (E+k * 9+2))=some (I Q):=c 2 O
       have d3:wr.cell? (Y b (E+k * 9+3))=some (RP ⟨R.toArray⟩):=c 3 O
       have d4:wr.cell? (Y b (E+k * 9+4))=some (I N):=c 4 O
       have d5:wr.cell? (Y b (E+k * 9+5))=some (RO za nk zc):=c 5 O
       have d6:wr.cell? (Y b (E+k * 9+6))=some (RO zb nm zd):=c 6 O
       have d7:wr.cell? (Y b (E+k * 9+7))=some (I d):=c 7 O
       have d8:wr.cell? (Y b (E+k * 9+8))=some (I P):=c 8 O
       have bs:decide (v.had < zu)=true:=OS hc
       have dp:=V (zt wr (.cells #[I zu,I zi,I Q,Oa R,I N,RO za nk zc,RO zb nm zd,I d,I P] 85))
       clear aj c br au E9 a1 a6 a3 dk hc
       go_wp2_with (first
        |(go_at_call 34;refine(bc.o _ dp.o).mono ?_;rintro e w7 ⟨rfl,q4,bj⟩)
        |fail)
       refine⟨?_,zV⟩
       first|exact⟨k+1,q4,O,zE,bj⟩|((repeat apply OA);exact⟨⟨k+1,q4,O,zE,bj⟩,rfl⟩)
      ·rw[Om (show ¬v.had < z.z.1 from hc)] at a3
       obtain⟨zu,⟨zi,Q,R,N,zk,ac,d,P⟩,za,zc,zb,zd⟩:=z
       simp only[vI,xV,NQ.m,Qh] at c hc
       obtain⟨nk,a1⟩:∃nk,zk.length=nk:=⟨_,rfl⟩
       obtain⟨nm,a6⟩:∃nm,ac.length=nm:=⟨_,rfl⟩
       rw[a1,a6] at c
       have d0:wr.cell? (Y b (E+k * 9))=some (I zu):=c 0 O
       have d1:wr.cell? (Y b (E+k * 9+1))=some (I zi):=c 1 O
       have d2:wr.cell? (Y b (E+k * 9+2))=some (I Q):=c 2 O
       have d3:wr.cell? (Y b (E+k * 9+3))=some (RP ⟨R.toArray⟩):=c 3 O
       have d4:wr.cell? (Y b (E+k * 9+4))=some (I N):=c 4 O
       have d5:wr.cell? (Y b (E+k * 9+5))=some (RO za nk zc):=c 5 O
       have d6:wr.cell? (Y b (E+k * 9+6))=some (RO zb nm zd):=c 6 O
       have d7:wr.cell? (Y b (E+k * 9+7))=some (I d):=c 7 O
       have d8:wr.cell? (Y b (E+k * 9+8))=some (I P):=c 8 O
       have bs:decide (v.had < zu)=false:=OD hc
       have bj:Z (NU w (wr.alloc (.cells #[I zu,I zi,I Q,Oa R,I N,RO za nk zc,RO zb nm zd,I d,I P] 85)) gv qv q3 (yy v.had (zs.take (k+1)) ⟨v.box,l2,v.had⟩) T2 s S (RO (some (Y b E)) K T) l):=V (by rw[a3];exact A.o.later (zt _ _))
       clear aj c br au E9 a1 a6 a3 dk hc
       go_wp2_with fail
       refine⟨?_,zV⟩
       first|exact⟨k+1,q3,O,zE,bj⟩|((repeat apply OA);exact⟨⟨k+1,q3,O,zE,bj⟩,rfl⟩)
     ·have av:¬(k:Int) < (K:Int):=O
      have de:k=K:=O
      subst de
      have HF:Z (NU w wr gv qv q3 (yy v.had zs ⟨v.box,l2,v.had⟩) T2 s S (RO A9 k T) l):=V (by
       have B:=A.o
       rw[Ou (by rw[←K1.o,Ow,qp.o];exact Oq _)] at B
       exact B)
      go_wp2_with fail
      go_meet
      exact⟨_,HF⟩
   case rest=>
    clear cq c1 c2 y9
    obtain⟨q3,A⟩:=hcut
    obtain⟨w4,rfl⟩:∃w4:Oc,w4=wc:=⟨_,rfl⟩
    obtain⟨v3,ab⟩:∃v3,yy v.had zs ⟨v.box,l2,v.had⟩=v3:=⟨_,rfl⟩
    rw[ab] at A
    obtain⟨n3,bv⟩:∃n3,v3.l.length=n3:=⟨_,rfl⟩
    have fj:n3≤1099511627776:=by
     have B:=Ur (had:=v.had) zs ⟨v.box,l2,v.had⟩
     have h2:=cc.o
     have h3:=H.o.zlen
     have h4:(⟨v.box,l2,v.had⟩:yI).l.length=D:=h2
     rw[ab,bv,h4] at B
     omega
    obtain⟨ev,f7,a0,_,_⟩:=A.o.turned.at_.msgs.form
    rw[bv] at a0
    have c1:w4.cell? (Y gv 1)=some (RO ev n3 f7):=by
     rw[A.o.turned.at_.blk.cell 1,←a0]
     rfl
    have bx:yH yq zs v all=(T2++(if D < n3 then VT n3 xS else []),v3):=by
     have e1:=be.o
     have e2:=c5.o
     have e3:=f3.o
     have e4:=f0.o
     have e5:=a7.o
     unfold yH
     simp only[←e1,←e2,e4,ab,bv,e5,e3]
    have db:=fun(tx:yx) W (hu:NU w W gv qv q3 v3 tx s S (RO A9 K T) l)=>(AD w.heap.size s tx W hu.bld hu.turned.N4.size).mono (fun e w' (h:e=RR (RP ⟨tx.toArray⟩)∧Od w W w'∧Lib.OthersKept 5 (some s) W w')=>(show e=RR (RP ⟨tx.toArray⟩)∧xc w w' gv qv v3 q3 from by
     obtain⟨cs,fb⟩:=hu.bld.blk
     exact⟨h.1,hu.fin h.2.1 (uB.others h.2.2 fb h.2.1.size (fun h=>h.1 rfl) (fun h=>h.2 rfl))⟩))
    have dq:=V db
    have cd:=V bx
    by_cases hc:D < n3
    ·have bs:(D:Int) < (n3:Int):=O
     have ap:Z (∀W X,Od w4 w4 W→NG W X 9 #[Oa xS]→C 39 #[I n3,RO (some (Y X 0)) 1 1,Y s 0] W fun e w'=>e=RR (.tuple #[])∧NU w w' gv qv q3 v3 (T2++VT n3 xS) s S (RO A9 K T) l):=V (fun W X y hX=>by
      have hu:=A.o.later y
      have B:=oA W (n3:Int) O _ 1 [xS] rfl O O (ro hX) w.heap.size s T2 hu.bld hu.turned.N4.size dy.o (by rw[Lib.join_one];decide) (H.o.tens W (hu.below H.o.base H.o.own))
      rw[Lib.join_one] at B
      refine B.mono ?_
      rintro e w' ⟨rfl,k1,k2,k3⟩
      exact⟨rfl,hu.said k1 k2 k3⟩)
     have bw:yH yq zs v all=(T2++VT n3 xS,v3):=by rw[cd.o,OG hc]
     have cr:=V bw
     clear ab bv a0 bx db bw hc
     go_wp2_with (first
      |(go_at_call 39;refine(ap.o _ _ (zt _ _) (NG.new _ _ _)).mono ?_;rintro e w8 ⟨rfl,bb⟩;have cv:=V bb;clear bb)
      |(go_at_call 50;refine(dq.o _ _ cv.o).mono ?_;rintro e w9 ⟨rfl,c0⟩;have cx:=V c0;clear c0)
      |fail)
     go_ret
     rw[cr.o]
     exact⟨rfl,_,cx.o⟩
    ·have bs:¬(D:Int) < (n3:Int):=O
     have bw:yH yq zs v all=(T2,v3):=by rw[cd.o,Om hc,Pr]
     have cr:=V bw
     clear ab bv a0 bx db bw hc
     go_wp2_with (first
      |(go_at_call 50;refine(dq.o _ _ A.o).mono ?_;rintro e w9 ⟨rfl,c0⟩;have cx:=V c0;clear c0)
      |fail)
     go_ret
     rw[cr.o]
     exact⟨rfl,_,cx.o⟩
end Go.Proofs.YtnofkliaofgiaaaGreatDoor
