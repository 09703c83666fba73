/-
  The walk of the reference's NewView. The walk of the reference's Told. The walks of the reference's Uids and Ids.
-/
import Derived.Test.YtnofkliaofgiaaaGreatDoorGVM
import Derived.Test.YtnofkliaofgiaaaGreatDoorGVD
import Derived.StillTailTactics
set_option maxRecDepth 100000
set_option maxHeartbeats 8000000
open Go.Proofs.Tryz
open Exists renaming intro→OA
open Go renaming World→Oc
open Go.Ending renaming returned→RR
open Go.IntKind renaming i64→Ov
open Go.IntWalk renaming i64_in→Og
open Go.RowKit renaming Below→Od
open Go.RowKit.Below renaming refl→Ok
open Go.Value renaming pointer→RQ,slice→RO,string→RP
open Go.Value.slice renaming inj→OM
open List renaming eq_nil_of_length_eq_zero→Oi,getElem?_eq_getElem→Ot,getElem_mem→Oj,length_map→Ow,length_set→Pd,map_append→OQ,mem_cons→OB,take_of_length_le→Ou,take_succ_eq_append_getElem→Oh
open Nat renaming add_assoc→O1,le_refl→Oq,zero_le→OE
open _root_ renaming Option→OC,if_neg→Om,if_pos→OG
namespace Go.Proofs.YtnofkliaofgiaaaGreatDoor
attribute [local go_sem ↓] Go.wp_at_zero Go.wp_at_succ
section
open Go.Shelf Go.RowKit
def pZ (w:Oc)(x:Acc)(box:Int)(b:Bool)(e:Ending)(w':Oc):Prop:=Od w w w'∧match b with
 |true=>∃gr qr,e=RR (.tuple #[Y gr 0,I 0])∧XF w' gr qr (jV box (N9 x box))∧∀k∈qr.own gr,w.heap.size≤k
 |false=>e=RR (.tuple #[RQ none,I 6])
theorem De (w:Oc)(g:Nat)(q:zW)(x:Acc)(hst:zJ w g q x)(hV:NW x)(box:Int) :
  C 16 #[Y g 0,I box] w (pZ w x box (zZ x.zg box)):=by
 have a2:x.zg.length≤1099511627776:=by
  have h1:=hV.fit.nb
  have h2:=hV.fit.zA
  have h3:=hV.fit.N3.mod
  omega
 have S:(N9 x box).length≤1099511627776:=by
  have h0:=YL x box
  exact pn
 have i:=Yy q.vb [] x.zg box w (hst.zg.reads [] zv) a2
 have j:=dL w g q x hst hV box
 have af:=ua box x.zg
 have a0:=hst.yZ
 obtain⟨W,y,D⟩:∃W,jV box (N9 x box)=⟨box,(N9 x box).map Ua,W⟩∧(∀z,(N9 x box).getLast?=some z→W=z.1)∧(N9 x box=[]→W=0):=
  ⟨_,nA box (N9 x box) (uW hV box) (fun z hz=>(Jp hV hz).1),fun z hz=>by rw[hz],fun h=>by rw[h];rfl⟩
 obtain⟨R,hR⟩:∃R,xC box x.zg=R:=⟨_,rfl⟩
 obtain⟨A0,c0,a3,_,_⟩:=hst.zg.form
 rw[a3] at i a0
 rw[hR] at i af
 unfold pZ
 rw[y]
 obtain⟨d,U⟩:∃d,N9 x box=d:=⟨_,rfl⟩
 rw[U] at j S D ⊢
 have N:=V D
 clear D
 cases hb:zZ x.zg box with
 |false=>
  rw[hb] at af
  have Q:R < 0:=bG
  clear af y
  go_enter func16,ntmps16
  go_wp2_with (first
   |(go_at_call 55;refine i.mono ?_;rintro e w1 ⟨rfl,rfl⟩)
   |fail)
  exact bodyPost_ret (results_tmp2 rfl _ _ _) rfl ⟨Ok _ _,rfl⟩
 |true=>
  rw[hb] at af
  have Q:¬R < 0:=bG
  obtain⟨n,hn⟩:∃n,d.length=n:=⟨_,rfl⟩
  rw[hn] at j S
  have HN:=V hn
  clear af y hb hR hn U
  go_enter func16,ntmps16
  go_upto_region 4 with(first
   |(go_at_call 55;refine i.mono ?_;rintro e w1 ⟨rfl,rfl⟩)
   |(go_at_call 56;refine j.mono ?_;rintro e t ⟨A,c,hh,rfl,hs,s,P⟩;have HS:=V hs;have L:=V s;have G:=V P;clear hs s P j)
   |fail)
  obtain⟨l,F⟩:∃l:Oc,l=t.alloc (.cells #[I box,RO A n c,I 0] 58):=⟨_,rfl⟩
  have a:=NG.new t 58 #[I box,RO A n c,I 0]
  have v:=zt t (.cells #[I box,RO A n c,I 0] 58)
  have B:=HS.o.alloc (.cells #[I box,RO A n c,I 0] 58)
  rw[←F] at a v B
  have H:=V a
  have m:=V (zj G.o v)
  have f:=V B
  have T:=G.o.size
  have r1:l.cell? (Y t.heap.size 1)=some (RO A n c):=a.cell 1
  have r2:l.cell? (Y t.heap.size 2)=some (I 0):=a.cell 2
  have f2:l.frozen? (Y t.heap.size 2)=false:=a.frozen 2
  rw[←F]
  have M:=V T
  clear F a v B T
  have HO:∀k∈(⟨hh,RO A n c⟩:NM).own t.heap.size,w.heap.size≤k:=fun k X=>by
   rcases OB.1 X with rfl|h1
   ·exact M.o
   ·exact L.o k xv
  have K:=V HO
  clear HO
  by_cases h0:0 < n
  ·have a4:(0:Int) < (n:Int):=O
   obtain⟨b,a7,a5,a6,E,_,_,_,a1⟩:=f.o.at_ h0
   injection E with E _ hv2
   subst E hv2
   have X:n - 1 < (d.map Ua).length:=by rw[Ow,HN.o];omega
   obtain⟨y0,yr⟩:=f.o.seenAt (n - 1) X
   obtain⟨u,hu⟩:∃u,(d.map Ua)[n - 1].uid=u:=⟨_,rfl⟩
   have HU:Z (W=u):=V (by
    have h1:d.getLast?=some (d[n - 1]' V3):=by
     rw[List.getLast?_eq_getElem?,show d.length - 1=n - 1 by rw[HN.o]]
     exact Ot V3
    rw[N.o.1 _ h1,←hu]
    simp[Ua])
   rw[hu] at y0
   have i2:0≤(n:Int) - 1:=O
   have i3:((n:Int) - 1).toNat=n - 1:=O
   have i4:(n:Int) - 1 < (n:Int):=O
   have i6:(1:Int)≤(n:Int):=O
   have i5:Ov.wrap ((n:Int) - 1)=(n:Int) - 1:=Og _ O
   clear a1 hu yr X
   go_upto_region 5 with(fail)
   go_still_tail 16,zQ
   change wpList _ _ _ _ _ l.drew
   go_wp2_with fail
   refine bodyPost_ret (results_tmp2 rfl _ _ _) rfl ⟨(zj m.o (zG l)).setCell M.o _,_,rfl,⟨hh,_⟩,⟨?_,?_⟩,K.o⟩
   ·have h1:=(H.o.heap (w':=l.drew) rfl).set 2 (I u)
    rw[HU.o]
    exact h1
   ·have h1:=(f.o.heap (w':=l.drew) rfl).far (p:=⟨t.heap.size,2,none⟩) (fun e=>Nat.lt_irrefl _ (HS.o.lt _ e)) (I u)
    show Sl _ _ 3 _ _ (d.map Ua).length _
    rw[Ow,HN.o]
    exact h1
  ·have a4:¬(0:Int) < (n:Int):=O
   have r:d=[]:=Oi V3
   have J:=V r
   clear r
   go_wp2_with fail
   refine bodyPost_ret (results_tmp2 rfl _ _ _) rfl ⟨m.o,_,rfl,⟨hh,_⟩,⟨?_,?_⟩,K.o⟩
   ·rw[N.o.2 J.o]
    exact H.o
   ·show Sl _ _ 3 _ _ (d.map Ua).length _
    rw[Ow,HN.o]
    exact f.o
theorem XF.Q5 {w:Oc}{g:Nat}{q:NM}{v:yI}(h:XF w g q v){b off n cap:Nat}(hvl:q.vl=RO (some (Y b off)) n cap)(k:Nat)(hk:k < v.l.length)(u:Int) :
  yM w (w.setCell (Y b (off+k * 3+2)) (I u)) g q {v with l:=v.l.set k {v.l[k] with told:=u}} q:=by
 obtain⟨o,m,d,i,a,_,_,_,_⟩:=h.sl.at_ O
 rw[hvl] at a
 injection a with e1 e2 e3
 injection e1 with e1
 injection e1 with e1 e4
 subst e1 e2 e3 e4
 have j:=h.sl
 rw[hvl] at j
 have f:=j.store (k * 3+2) (I u)
 rw[ub (enc:=vG) vH v.l k 2 hk O (I u) {v.l[k] with told:=u} rfl,←O1] at f
 have c:b≠g:=h.sl.vu h.blk zD b i
 refine⟨⟨h.blk.far (p:=⟨b,off+k * 3+2,none⟩) (fun e=>c e.symm) _,?_⟩,(NH.refl (q.own g) w).set (p:=⟨b,off+k * 3+2,none⟩) (.inl (NM.Lg i)) _,fun k hk=>.inl hk⟩
 show Sl _ _ 3 q.vl q.h (v.l.set k _).length _
 rw[Pd,hvl]
 exact f
theorem zJ.kv {w:Oc}{g:Nat}{q:zW}{x:Acc}(h:zJ w g q x):∀m∈q.ms,∃Ak nk ck Av nv cv,m.kv=RO Ak nk ck∧m.mv=RO Av nv cv:=fun m hm=>by
 obtain⟨Ak,ck,h1,_,_⟩:=(h.parts m hm).keys.form
 obtain⟨Av,cv,h2,_,_⟩:=(h.parts m hm).mem.form
 exact⟨Ak,_,ck,Av,_,cv,h1,h2⟩
theorem C7 (w:Oc)(g:Nat)(q:zW)(gr:Nat)(qr:NM)(v:yI)(hv:XF w gr qr v)(i:Int)(hi:i < 0∨(v.l.length:Int)≤i) :
  C 66 #[Y gr 0,Y g 0,I i] w (dV w q none):=by
 have h:w.cell? (Y gr 1)=some qr.vl:=hv.blk.cell 1
 obtain⟨A,c,f,_,_⟩:=hv.sl.form
 have m:=hv.blk.lt
 rw[f] at h
 obtain⟨n,e⟩:∃n,v.l.length=n:=⟨_,rfl⟩
 rw[e] at hi h
 have b:=zt w (.cells #[I 0,I 0,RP ⟨#[]⟩,I 0,RO none 0 0,RO none 0 0,I 0,I 0] 83)
 have a:=NG.new w 83 #[I 0,I 0,RP ⟨#[]⟩,I 0,RO none 0 0,RO none 0 0,I 0,I 0]
 obtain⟨p,d⟩:∃p:Oc,p=w.alloc (.cells #[I 0,I 0,RP ⟨#[]⟩,I 0,RO none 0 0,RO none 0 0,I 0,I 0] 83):=⟨_,rfl⟩
 rw[←d] at b a
 have t:p.cell? (Y gr 1)=some (RO A n c):=(b.cell m).trans h
 obtain⟨⟨H,J,K,L,M,N,P,Q⟩,u,x,y,z,B,D,E,F⟩:=qB a
 have j:=V b
 have k:=V a
 clear b a h f e
 have r:¬i < 0→(n:Int)≤i:=O
 by_cases s:i < 0
 all_goals
  try have G:=r s
  clear r
  go_enter func66,ntmps66
  go_upto_region 1 with(fail)
  rw[←d]
  clear d
  go_wp2_with fail
  refine bodyPost_ret (v:=.tuple #[.agg (xV oN).toArray,.bool false]) ?_ rfl ⟨?_,rfl⟩
  ·exact Ql (blk8 k.o _ _ _ _ _ _ _ _) rfl rfl
  ·exact qq j.o (Oq _) _ _ _ _ _ _ _ _
theorem ry (w:Oc)(g:Nat)(q:zW)(gr:Nat)(qr:NM)(v:yI)(hv:XF w gr qr v)(at_ i:Int)(hi:Ov.wrap (at_ - 1)=i)(hm:C 66 #[Y gr 0,Y g 0,I i] w (dV w q none)) :
  C 20 #[Y gr 0,Y g 0,I at_] w fun e w'=>e=RR (.tuple #[])∧∃qr',yM w w' gr qr v qr':=by
 have c:=V hv
 clear hv
 go_enter func20,ntmps20
 go_wp2_with (first
  |(go_at_call 66;refine hm.mono ?_;rintro e d ⟨b,rfl⟩;have a:=V b;clear b hm;simp only[xV,oN,Qh])
  |fail)
 exact bodyPost_end (results_none rfl _ _ _) rfl ⟨rfl,qr,yM.of_below c.o (zj a.o (zt _ _))⟩
theorem DB (w:Oc)(g:Nat)(q:zW)(x:Acc)(hst:zJ w g q x)(hV:NW x)(gr:Nat)(qr:NM)(v:yI)(hv:XF w gr qr v)(hn:v.l.length≤1099511627776)(hu:∀m∈v.l,m.uid≠0)(at_:Int)(hlo:-9223372036854775808≤at_)(hhi:at_≤9223372036854775807) :
  C 20 #[Y gr 0,Y g 0,I at_] w fun e w'=>e=RR (.tuple #[])∧∃qr',yM w w' gr qr (Jj (N9 x v.box) v at_) qr':=by
 unfold Jj
 by_cases hr:at_ < 1∨(v.l.length:Int) < at_
 ·rw[OG hr]
  obtain⟨i,hi⟩:∃i,Ov.wrap (at_ - 1)=i:=⟨_,rfl⟩
  refine ry w g q gr qr v hv at_ i hi (C7 w g q gr qr v hv i ?_)
  by_cases A:at_= -9223372036854775808
  ·right
   rw[←hi,A]
   show _≤(9223372036854775807:Int)
   omega
  ·have h2:Ov.wrap (at_ - 1)=at_ - 1:=Og _ O
   omega
 ·rw[Om hr]
  obtain⟨k,rfl⟩:∃k:Nat,at_=(k:Int)+1:=⟨(at_ - 1).toNat,O⟩
  have D:k < v.l.length:=O
  have a2:Ov.wrap ((k:Int)+1 - 1)=(k:Int):=by rw[show (k:Int)+1 - 1=(k:Int) by omega];exact Og _ O
  have F:=eY w g q x hst hV.fit gr qr v hv k D hn
  have ht:=Lu hV v.box v.l[k] (hu _ (Oj D))
  rw[show ((k:Int)+1 - 1).toNat=k by omega,cQ _ _ _ D,ht]
  obtain⟨b,h,T,hh,f,_,_,B,a0⟩:=hv.sl.at_ O
  cases d:Yz x.zC v.box v.l[k] with
  |none=>
   rw[d] at F
   simp only
   rw[List.set_getElem_self]
   exact ry w g q gr qr v hv _ k a2 F
  |some y=>
   rw[d] at F
   simp only
   have L:w.cell? (Y gr 1)=some qr.vl:=hv.blk.cell 1
   have a1:=hv.blk.lt
   have hs:=hv.sl
   rw[f] at hs L
   obtain⟨_,_,y2,yf⟩:=hs.seenAt k D
   have f2:=yf 2
   obtain⟨n,c⟩:∃n,v.l.length=n:=⟨_,rfl⟩
   obtain⟨z,hz⟩:∃z,v.l[k].told=z:=⟨_,rfl⟩
   rw[c] at L hn
   rw[hz] at y2
   have a4:(k:Int) < (n:Int):=O
   have a3:(0:Int)≤(k:Int):=O
   have a5:Ov.wrap (k:Int)=(k:Int):=Og _ O
   have R:=V hst.kv
   have HV:=V hv
   have HK:=V D
   have t:=V f
   rw[c] at t
   have s:Z (∀W,Od w w W→W.cell? (Y gr 1)=some (RO (some (Y b h)) n T)∧W.cell? (Y b (h+k * 3+2))=some (I z)∧W.frozen? (Y b (h+k * 3+2))=false):=V fun W r=>⟨(r.cell a1).trans L,(r.cell B).trans y2,(r.frozen B).trans f2⟩
   clear a0 hs yf ht hr d c f L y2 f2 hh hz hst hV hu
   go_enter func20,ntmps20
   go_upto_region 2 with(first
    |(go_at_call 66;refine F.mono ?_;rintro e M ⟨r,m,G,H,rfl⟩;have Q:=V r;have S:=V H;obtain⟨N,nk,U,P,nv,X,E,J⟩:=R.o m G;clear r F G H;simp only[xV,Qh,E,J])
    |fail)
   obtain⟨j,K⟩:∃j:Oc,j=M.alloc (.cells #[I m.p.id,I m.p.thread,Oa m.p.text,I m.p.at_,(RO N nk U),(RO P nv X),I m.p.mod,I m.p.born] 83):=⟨_,rfl⟩
   have hM:=NG.new M 83 #[I m.p.id,I m.p.thread,Oa m.p.text,I m.p.at_,(RO N nk U),(RO P nv X),I m.p.mod,I m.p.born]
   have a:=zj Q.o (zt M (.cells #[I m.p.id,I m.p.thread,Oa m.p.text,I m.p.at_,(RO N nk U),(RO P nv X),I m.p.mod,I m.p.born] 83))
   rw[←K] at hM a ⊢
   have r6:j.cell? (Y M.heap.size 6)=some (I m.p.mod):=hM.cell 6
   obtain⟨d1,d2,d3⟩:=s.o j a
   have HD:Z (Od w w j.drew):=V (zj a (zG j))
   obtain⟨u,hu⟩:∃u,m.p.mod=u:=⟨_,rfl⟩
   have HU:Z (y.mod=u):=V (by rw[←S.o];exact hu)
   rw[hu] at r6
   clear K hM a hu E J
   go_still_tail 10,zQ
   change wpList _ _ _ _ _ j.drew
   go_wp2_with fail
   have A:=(yM.of_below HV.o HD.o).trans ((HV.o.later HD.o).Q5 t.o k HK.o u)
   rw[←HU.o] at A
   exact bodyPost_end (results_none rfl _ _ _) rfl ⟨rfl,qr,by rw[HU.o] at A ⊢;exact A⟩
end
section
open Go.Shelf Go.RowKit Go.Lib
theorem DD (w:Oc)(g:Nat)(q:NM)(v:yI)(h:XF w g q v)(n:Nat)(hln:v.l.length=n)(hn:n≤1099511627776) :
  C 21 #[Y g 0] w fun e w'=>∃(A:OC Addr) (c:Nat) (hh:OC Nat),e=RR (RO A n c)∧Sl w' 3 1 (RO A n c) hh n ((v.l.map (·.uid)).map yJ)∧(∀b,hh=some b→w.heap.size≤b)∧Od w w w':=by
 obtain⟨i0,hi,B,D,E⟩:=info_parts Try.infoIntV
 have j:Z (wS w w (·.uid) v.l 0 (RO none 0 0)):=V ⟨Ok _ _,none,fV,fun b hb=>by cases hb⟩
 have H:=V h
 have qg:=V hln
 obtain⟨G,K,f,_,_⟩:=h.sl.form
 rw[hln] at f
 have d:=V f
 clear h hln f
 go_enter func21,ntmps21
 go_wp2
 go_loopw [3,4] (fun o i wr=>∃k:Nat,k≤n∧i=I k∧Z (wS w wr (·.uid) v.l k o)) (fun _ i _=>n - (intOf i).toNat)
 case atStart=>exact⟨0,OE _,rfl,j⟩
 case round=>
  clear j
  obtain⟨k,hk,rfl,HU⟩:=hrel
  have s:=H.o.later HU.o.below
  have c1:wr.cell? (Y g 1)=some (RO G n K):=(s.blk.cell 1).trans (by rw[←d.o];rfl)
  obtain⟨jy,h0,gq,ig⟩:=HU.o
  obtain⟨W,c0,rfl,_,_⟩:=gq.form
  by_cases af:k < n
  ·have iw:(k:Int) < (n:Int):=O
   have M:(0:Int)≤(k:Int):=O
   have N:Ov.wrap ((k:Int)+1)=(k:Int)+1:=Og _ O
   have p:k < v.l.length:=bB
   obtain⟨X,om,J,_,r,_,_,_,x⟩:=s.sl.at_ O
   have z:=(OM (d.o.symm.trans r)).1
   subst z
   have y:=s.sl
   rw[d.o,qg.o] at y
   obtain⟨S,T,U⟩:=y.seenAt k p
   have a:((v.l.take (k+1)).map (·.uid)).map yJ=((v.l.take k).map (·.uid)).map yJ++[yJ v.l[k].uid]:=by
    rw[Oh p,OQ,OQ]
    rfl
   have ja:=V gq
   have dz:=V jy
   have jm:=V ig
   obtain⟨⟨u,i,t⟩,F⟩:∃m,v.l[k]=m:=⟨_,rfl⟩
   rw[F] at S T a
   have Ca:=V a
   clear s a jy gq ig y U x r F
   go_wp2_with (first
    |(at_builtin;refine yc rfl _ _ 35 rfl underlying35 hi B D E rfl zD ja.o rfl 1 1 rfl rfl ?_ ?_ ?_ ?_)
    |fail)
   ·simp[Value.oneCell']
   ·unfold maxLen
    omega
   ·omega
   ·intro Q L R jd o8 lu
    have HN:Z (wS w R (·.uid) v.l (k+1) Q):=V (by
     have P:=dz.o.size
     refine⟨dz.o.trans (o8.below P fun i hi=>jm.o i vq),L,fW,fun b hb=>?_⟩
     rcases lu with h3|⟨g,h3,h4⟩
     ·exact jm.o b (h3 ▸ hb)
     ·rw[h3] at hb
      injection hb with hb
      omega)
    exact fL
  ·exact Mu
theorem Ll (w:Oc)(g:Nat)(q:NM)(v:yI)(h:XF w g q v)(n:Nat)(hln:v.l.length=n)(hn:n≤1099511627776) :
  C 23 #[Y g 0] w fun e w'=>∃(A:OC Addr) (c:Nat) (hh:OC Nat),e=RR (RO A n c)∧Sl w' 3 1 (RO A n c) hh n ((v.l.map (·.id)).map yJ)∧(∀b,hh=some b→w.heap.size≤b)∧Od w w w':=by
 obtain⟨i0,hi,B,D,E⟩:=info_parts Try.infoIntV
 have j:Z (wS w w (·.id) v.l 0 (RO none 0 0)):=V ⟨Ok _ _,none,fV,fun b hb=>by cases hb⟩
 have H:=V h
 have qg:=V hln
 obtain⟨G,K,f,_,_⟩:=h.sl.form
 rw[hln] at f
 have d:=V f
 clear h hln f
 go_enter func23,ntmps23
 go_wp2
 go_loopw [3,4] (fun o i wr=>∃k:Nat,k≤n∧i=I k∧Z (wS w wr (·.id) v.l k o)) (fun _ i _=>n - (intOf i).toNat)
 case atStart=>exact⟨0,OE _,rfl,j⟩
 case round=>
  clear j
  obtain⟨k,hk,rfl,HU⟩:=hrel
  have s:=H.o.later HU.o.below
  have c1:wr.cell? (Y g 1)=some (RO G n K):=(s.blk.cell 1).trans (by rw[←d.o];rfl)
  obtain⟨jy,h0,gq,ig⟩:=HU.o
  obtain⟨W,c0,rfl,_,_⟩:=gq.form
  by_cases af:k < n
  ·have iw:(k:Int) < (n:Int):=O
   have M:(0:Int)≤(k:Int):=O
   have N:Ov.wrap ((k:Int)+1)=(k:Int)+1:=Og _ O
   have p:k < v.l.length:=bB
   obtain⟨X,om,J,_,r,_,_,_,x⟩:=s.sl.at_ O
   have z:=(OM (d.o.symm.trans r)).1
   subst z
   have y:=s.sl
   rw[d.o,qg.o] at y
   obtain⟨S,T,U⟩:=y.seenAt k p
   have a:((v.l.take (k+1)).map (·.id)).map yJ=((v.l.take k).map (·.id)).map yJ++[yJ v.l[k].id]:=by
    rw[Oh p,OQ,OQ]
    rfl
   have ja:=V gq
   have dz:=V jy
   have jm:=V ig
   obtain⟨⟨u,i,t⟩,F⟩:∃m,v.l[k]=m:=⟨_,rfl⟩
   rw[F] at S T a
   have Ca:=V a
   clear s a jy gq ig y U x r F
   go_wp2_with (first
    |(at_builtin;refine yc rfl _ _ 35 rfl underlying35 hi B D E rfl zD ja.o rfl 1 1 rfl rfl ?_ ?_ ?_ ?_)
    |fail)
   ·simp[Value.oneCell']
   ·unfold maxLen
    omega
   ·omega
   ·intro Q L R jd o8 lu
    have HN:Z (wS w R (·.id) v.l (k+1) Q):=V (by
     have P:=dz.o.size
     refine⟨dz.o.trans (o8.below P fun i hi=>jm.o i vq),L,fW,fun b hb=>?_⟩
     rcases lu with h3|⟨g,h3,h4⟩
     ·exact jm.o b (h3 ▸ hb)
     ·rw[h3] at hb
      injection hb with hb
      omega)
    exact fL
  ·exact Mu
end
end Go.Proofs.YtnofkliaofgiaaaGreatDoor
