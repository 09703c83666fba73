/-
  The walk of law 24's act: an act on the program's account alone. The walk of law 24's there: a mailbox's numbers, rising.
-/
import Derived.Test.YtnofkliaofgiaaaGreatDoorGVJ
import Derived.Test.YtnofkliaofgiaaaGreatDoorGWA
import Derived.Test.YtnofkliaofgiaaaGreatDoorGVG
import Derived.Test.YtnofkliaofgiaaaGreatDoorGRK
import Derived.Test.YtnofkliaofgiaaaGreatDoorGVE
import Derived.Test.YtnofkliaofgiaaaGreatDoorGVD
set_option maxRecDepth 100000
set_option maxHeartbeats 8000000
open Go.Proofs.Tryz
open Exists renaming intro→OA
open Go renaming TypeId→Pa,Value→Oe,World→Oc
open Go.Ending renaming returned→RR
open Go.IntKind renaming i64→Ov
open Go.IntWalk renaming i64_in→Og
open Go.RowKit renaming Below→Od
open Go.RowKit.Below renaming refl→Ok
open Go.Value renaming slice→RO,string→RP
open Go.Value.slice renaming inj→OM
open List renaming getElem?_eq_getElem→Ot,getElem?_map→O5,getElem_mem→Oj,length_append→Oo,length_cons→OT,length_drop→O8,length_map→Ow,length_take→OU,map_append→OQ,map_map→PS,take_of_length_le→Ou
open Nat renaming add_assoc→O1,le_refl→Oq,zero_le→OE
open Option.some renaming inj→O6
open _root_ renaming List→Ob,Option→OC,if_neg→Om
namespace Go.Proofs.YtnofkliaofgiaaaGreatDoor
attribute [local go_sem ↓] Go.wp_at_zero Go.wp_at_succ
section
open Go.Shelf Go.RowKit Go.Lib
def gQ (x:Acc)(a:Uc):Acc:=if a.op=1∨a.op=2 then x else (N5 x a).1
theorem VL.Nv {x:Acc}{n:Nat}(h:VL x n)(a:Uc):VL (gQ x a) (n+1):=by
 unfold gQ
 split
 ·exact h.more O
 ·exact h.act a
theorem act_any (W:Oc)(g:Nat)(q:zW)(x:Acc)(op id at_:Int)(nm:yx)(bs:Ob Int)(ks:yF)(vb vk:Oe)(h:Ys W g q x bs vb [] ks vk [] nm) :
  C 11 #[Y g 0,.agg #[I op,I id,I at_,RP ⟨nm.toArray⟩,vb,vk]] W fun e w'=>e=RR (.tuple #[])∧∃q',zL W w' g q (gQ x ⟨op,id,at_,nm,bs,ks⟩) q':=by
 obtain⟨p,t,rfl,_,_⟩:=h.zg.form
 obtain⟨r,u,rfl,_,_⟩:=h.keys.form
 obtain⟨nb,j⟩:∃nb,bs.length=nb:=⟨_,rfl⟩
 obtain⟨nk,k⟩:∃nk,ks.length=nk:=⟨_,rfl⟩
 have i:=zt W (.cells #[I op,I id,I at_,Oa nm,RO p bs.length t,RO r ks.length u] 40)
 have l:=NG.new W 40 #[I op,I id,I at_,Oa nm,RO p bs.length t,RO r ks.length u]
 obtain⟨c,a⟩:∃c:Oc,c=W.alloc (.cells #[I op,I id,I at_,Oa nm,RO p bs.length t,RO r ks.length u] 40):=⟨_,rfl⟩
 rw[←a] at i l
 have b:Ys c g q x bs (RO p bs.length t) [] ks (RO r ks.length u) [] nm:=⟨h.at_.later i,h.fit,h.zg.below i,h.nb,h.keys.below i,h.nk,h.short,h.text⟩
 have z:Z (zL W c g q x q):=V (zL.of_below h.at_ i)
 obtain⟨M,N,P,Q,R,S⟩:c.cell? (Y W.heap.size 0)=some (I op)∧c.cell? (Y W.heap.size 1)=some (I id)∧c.cell? (Y W.heap.size 2)=some (I at_)∧c.cell? (Y W.heap.size 3)=some (RP ⟨nm.toArray⟩)∧c.cell? (Y W.heap.size 4)=some (RO p bs.length t)∧c.cell? (Y W.heap.size 5)=some (RO r ks.length u):=⟨l.cell 0,l.cell 1,l.cell 2,l.cell 3,l.cell 4,l.cell 5⟩
 clear h i l
 have v:∀(w':Oc) (x':Acc),(∃q',zL c w' g q x' q')→gQ x ⟨op,id,at_,nm,bs,ks⟩=x'→∃q',zL W w' g q (gQ x ⟨op,id,at_,nm,bs,ks⟩) q':=fun _ _ ⟨q',d⟩ he=>⟨q',by rw[he];exact z.o.trans d⟩
 have Iw:=V v
 clear v
 by_cases m:op=3∨op=4∨op=5
 ·have f:=VH c g q x bs _ [] ks _ [] at_ nm b
  have HA:Z (gQ x ⟨op,id,at_,nm,bs,ks⟩=(ya yL x bs ks at_ nm).1):=V (by rcases m with rfl|rfl|rfl <;> rfl)
  rw[j,k] at *
  clear b
  rcases m with rfl|rfl|rfl
  all_goals
   go_enter func11,ntmps11
   go_upto_region 1 with(fail)
   rw[←a]
   clear a
   go_wp2_with (first
    |(go_at_call 26;refine f.mono ?_;rintro e y ⟨rfl,d⟩;have HT:=V d;clear d f)
    |fail)
   exact pg
 by_cases n:op=6∨op=7
 ·have f:=QO c g q x id ks _ [] ⟨b.at_,b.fit,b.keys,b.nk,b.short⟩
  have HA:Z (gQ x ⟨op,id,at_,nm,bs,ks⟩=(vx x id ks).1):=V (by rcases n with rfl|rfl <;> rfl)
  rw[j,k] at *
  clear b m
  rcases n with rfl|rfl
  all_goals
   go_enter func11,ntmps11
   go_upto_region 1 with(fail)
   rw[←a]
   clear a
   go_wp2_with (first
    |(go_at_call 35;refine f.mono ?_;rintro e y ⟨rfl,d⟩;have HT:=V d;clear d f)
    |fail)
   exact pg
 by_cases s:op=8∨op=9
 ·have f:=Jb c g q x id bs _ [] b.at_ b.fit b.zg b.nb
  have HA:Z (gQ x ⟨op,id,at_,nm,bs,ks⟩=(xn x id bs).1):=V (by rcases s with rfl|rfl <;> rfl)
  rw[j,k] at *
  clear b m n
  rcases s with rfl|rfl
  all_goals
   go_enter func11,ntmps11
   go_upto_region 1 with(fail)
   rw[←a]
   clear a
   go_wp2_with (first
    |(go_at_call 36;refine f.mono ?_;rintro e y ⟨rfl,d⟩;have HT:=V d;clear d f)
    |fail)
   exact pg
 by_cases w:op=10
 ·subst w
  have f:=JW c g q x id b.at_ b.fit
  rw[j,k] at *
  clear b m n s
  go_enter func11,ntmps11
  go_upto_region 1 with(fail)
  rw[←a]
  clear a
  go_wp2_with (first
   |(go_at_call 37;refine f.mono ?_;rintro e y ⟨rfl,d⟩;have HT:=V d;clear d f)
   |fail)
  exact bodyPost_end (results_none rfl _ _ _) rfl ⟨rfl,Iw.o _ _ HT.o rfl⟩
 by_cases A:op=0
 ·subst A
  have f:=qY c g q x nm at_ b.at_ b.fit b.text
  rw[j,k] at *
  clear b m n s w
  go_enter func11,ntmps11
  go_upto_region 1 with(fail)
  rw[←a]
  clear a
  go_wp2_with (first
   |(go_at_call 38;refine f.mono ?_;rintro e y ⟨rfl,d⟩;have HT:=V d;clear d f)
   |fail)
  exact bodyPost_end (results_none rfl _ _ _) rfl ⟨rfl,Iw.o _ _ HT.o rfl⟩
 have HA:Z (gQ x ⟨op,id,at_,nm,bs,ks⟩=x):=V (by
  unfold gQ N5
  simp only
  split
  ·rfl
  ·rename_i h12
   rw[Om (fun h=>h12 (.inl h)),Om (fun h=>h12 (.inr h))])
 have HT:Z (∃q',zL c c g q x q'):=V ⟨q,zL.of_below b.at_ (Ok _ _)⟩
 have D:(op==0)=false:=by simpa using A
 have E:(op==3)=false:=zT
 have F:(op==4)=false:=zT
 have G:(op==5)=false:=zT
 have H:(op==6)=false:=zT
 have J:(op==7)=false:=zT
 have K:(op==8)=false:=zT
 have L:(op==9)=false:=zT
 have B:(op==10)=false:=by simpa using w
 rw[j,k] at *
 clear b m n s w A
 go_enter func11,ntmps11
 go_upto_region 1 with(fail)
 rw[←a]
 clear a
 go_wp2_with fail
 exact bodyPost_end (results_none rfl _ _ _) rfl ⟨rfl,Iw.o _ _ HT.o HA.o⟩
end
section
open Go.Shelf Go.RowKit
def eU (y:NL):Oe:=yJ y.uid
theorem Sl.Lz {w:Oc}{e:Pa}{b off n cap:Nat}{h:OC Nat}{l:Ob NL}(hs:Sl w e 1 (RO (some (Y b off)) n cap) h n (l.map eU))(r:Nat)(hr:r < l.length) :
  w.cell? (Y b (off+r))=some (I l[r].uid)∧w.frozen? (Y b (off+r))=false:=by
 have k:l.length=n:=by
  have c:=hs.1
  rw[Ow] at c
  omega
 obtain⟨g,m,i,j,f,_,_,_,d⟩:=hs.at_ O
 have a:=(OM f).1
 injection a with a
 injection a with hv3 hv4
 subst hv3 hv4
 have c:=d r O
 rw[O5,Ot hr] at c
 exact c
theorem Sl.LY {w:Oc}{e:Pa}{b off n cap:Nat}{h:OC Nat}{l:Ob NL}(hs:Sl w e 1 (RO (some (Y b off)) n cap) h n (l.map eU))(r:Nat)(y:NL) :
  Sl (w.setCell (Y b (off+r)) (I y.uid)) e 1 (RO (some (Y b off)) n cap) h n ((l.set r y).map eU):=by
 have a:=hs.store r (I y.uid)
 rw[List.map_set]
 exact a
theorem eU_map (zs:Ob (Int×zR)):(zs.map Ua).map eU=(zs.map (·.1)).map yJ:=by
 rw[PS,PS]
 rfl
structure TlR (w wr:Oc)(x:Acc)(box:Int)(o:Oe)(k:Nat)(ys:Ob NL)(h:OC Nat):Prop where
 below:Od w w wr
 sl:Sl wr 3 1 o h ys.length (ys.map eU)
 own:∀b,h=some b→w.heap.size≤b
 p:NR x box k ys
theorem TlR.later {w wr w':Oc}{x:Acc}{box:Int}{o:Oe}{k:Nat}{ys:Ob NL}{h:OC Nat}(hr:TlR w wr x box o k ys h)(hb:Od wr wr w'):TlR w w' x box o k ys h:=
 ⟨zj hr.below hb,hr.sl.keep (fun b h=>hb.block b (hr.sl.lt b h)),hr.own,hr.p⟩
def TlO (w wr:Oc)(x:Acc)(box:Int)(k:Nat)(o:Oe):Prop:=∃(A:OC Addr) (c m:Nat) (ys:Ob NL) (h:OC Nat),o=RO A m c∧ys.length=m∧TlR w wr x box (RO A m c) k ys h
structure TlS (w wr:Oc)(o:Oe)(b2:Nat)(n:Nat)(ys:Ob NL)(r:Nat):Prop where
 below:Od w w wr
 ex:∃z,Sl wr 3 1 o (some b2) n ((ys.take r++z :: ys.drop r).map eU)
theorem DV (w0:Oc)(g:Nat)(q:zW)(x:Acc)(hst:zH w0 g q x)(hV:NW x)(box:Int) :
  C 15 #[Y g 0,I box] w0 fun e w'=>∃A c hh,e=RR (RO A (N9 x box).length c)∧Sl w' 3 1 (RO A (N9 x box).length c) hh (N9 x box).length (((N9 x box).map (·.1)).map yJ)∧Od w0 w0 w':=by
 obtain⟨i0,hi,be,bh,bi⟩:=info_parts Try.infoIntV
 have a1:=cP w0 g q x hst hV.fit.J9 [] zv
 obtain⟨n,a2⟩:∃n,x.zC.length=n:=⟨_,rfl⟩
 have bu:n≤4294967296:=by
  exact pn
 rw[a2] at a1
 have b0:=V a1
 have HV:=V hV
 have ai:=V a2
 clear hst hV a2 a1
 go_enter func15,ntmps15
 go_wp2_with (first
  |(go_at_call 53;refine b0.o.mono ?_;rintro e w ⟨Am,cm,rfl,a0,ac⟩;obtain⟨Q,al⟩:=a0;have az:=V ac;have H:=V al;clear ac al)
  |fail)
 have a8:Z (TlO w w x box 0 (RO none 0 0)):=V ⟨none,0,0,[],none,rfl,rfl,Ok _ _,Sl.nil _ _ _,fun b hb=>(by cases hb),rD x box⟩
 go_loopw [5,7] (fun o iv wr=>∃k:Nat,k≤n∧iv=I k∧Z (TlO w wr x box k o)) (fun _ iv _=>n - (intOf iv).toNat)
 case atStart=>exact⟨0,OE _,rfl,a8⟩
 case round=>
  clear a8
  obtain⟨k,hk,rfl,HO⟩:=hrel
  obtain⟨A1,c1,m,ys,h,rfl,hm,hu⟩:=HO.o
  have HM:=V hm
  have v:=V hu
  clear HO hm hu
  by_cases af:k < n
  ·have bl:(k:Int) < (n:Int):=O
   have bs:(0:Int)≤(k:Int):=O
   have br:Ov.wrap ((k:Int)+1)=(k:Int)+1:=Og _ O
   have L:k < x.zC.length:=vN
   have P:Q.length=x.zC.length:=by rw[←H.o.1,Ow]
   have K:k < Q.length:=O
   have am:Q.length=n:=by rw[P,ai.o]
   have t:=H.o.2.1
   rw[am] at t
   obtain⟨b,s,bp,hv,_,_,M,_,ab⟩:=t.at_ O
   obtain⟨rfl,_,rfl⟩:=OM hv
   obtain⟨d,X⟩:∃d,Q[k]=d:=⟨_,rfl⟩
   have uz:=H.o.2.2 Q[k] (Oj K)
   have E:Q[k].p=x.zC[k]:=by
    have h1:(Q.map (·.p))[k]?=x.zC[k]?:=by rw[H.o.1]
    rw[O5,Ot K,Ot L] at h1
    exact O6 h1
   have ao:=HV.o.fit.lW (Oj L)
   rw[X] at uz E
   rw[←E] at ao
   have l:∀j,j < 8→wr.cell? (Y b (s+k * 8+j))=(xV d)[j]?:=fun j hj=>by
    rw[O1]
    refine(v.o.below.cell M).trans ((ab (k * 8+j) O).trans ?_)
    rw[yv xr Q k j K hj,X]
   have e0:wr.cell? (Y b (s+k * 8))=some (I d.p.id):=l 0 O
   have e1:wr.cell? (Y b (s+k * 8+1))=some (I d.p.thread):=l 1 O
   have e2:wr.cell? (Y b (s+k * 8+2))=some (RP ⟨d.p.text.toArray⟩):=l 2 O
   have e3:wr.cell? (Y b (s+k * 8+3))=some (I d.p.at_):=l 3 O
   have e4:wr.cell? (Y b (s+k * 8+4))=some d.kv:=l 4 O
   have e5:wr.cell? (Y b (s+k * 8+5))=some d.mv:=l 5 O
   have e6:wr.cell? (Y b (s+k * 8+6))=some (I d.p.mod):=l 6 O
   have e7:wr.cell? (Y b (s+k * 8+7))=some (I d.p.born):=l 7 O
   obtain⟨Ak,ck,ag,_,_⟩:=uz.keys.form
   obtain⟨Av,cv,an,_,_⟩:=uz.mem.form
   obtain⟨u,hu⟩:∃u,yY d.p.zr box=u:=⟨_,rfl⟩
   have G:=Vh wr d.p.id d.p.thread d.p.at_ d.p.mod d.p.born ⟨d.p.text.toArray⟩ d.kv d.mv d.p.zr box (uz.mem.keep (T:=[]) v.o.below.size (fun b h _=>v.o.below.block b h) (fun _ _ _ h=>by cases h)) O
   rw[ag] at e4 G
   rw[an] at e5 G
   rw[hu] at G
   have Hr:=V G
   have B:Z (yY x.zC[k].zr box=u∧x.zC[k]=d.p):=V ⟨by rw[←E];exact hu,E.symm⟩
   clear ab uz E ao l G X ag an hu t hv P am K M
   by_cases Ep:u=0
   ·subst Ep
    have kr:∀W,Od wr wr W→Z (TlO w W x box (k+1) (RO A1 m c1)):=fun W hb=>V ⟨A1,c1,m,ys,h,rfl,HM.o,zj v.o.below hb,(v.o.later hb).sl,v.o.own,v.o.p.skip L B.o.1⟩
    exact MK
   ·have bx:(u==0)=false:=JI
    have bt:m≤k:=by
     have:=v.o.p.len
     have:=HM.o
     omega
    go_upto_block 2 with(first
     |(go_at_call 54;refine Hr.o.mono ?_;rintro e w2 ⟨rfl,hb2⟩;have J:=V (v.o.later hb2);clear hb2)
     |fail)
    clear Hr v e0 e1 e2 e3 e4 e5 e6 e7
    go_cut [9] (fun a wx=>∃p:Nat,p≤m∧a=I p∧Z (∀i (hi:i < ys.length),p≤i→u < ys[i].uid)∧Z (∀(h0:0 < p) (hp:p - 1 < ys.length),ys[p - 1].uid≤u)∧Z (wx=w2))
    case first=>
     go_wp2_with fail
     go_loop [9] (fun a=>∃p:Nat,p≤m∧a=I p∧Z (∀i (hi:i < ys.length),p≤i→u < ys[i].uid)) (fun a=>(intOf a).toNat)
     case atStart=>exact⟨m,Oq _,rfl,V (fun i hi hp=>absurd hi Xv)⟩
     case round=>
      obtain⟨p,hp,rfl,HP⟩:=hrel
      by_cases h0:0 < p
      ·have ba:(0:Int) < (p:Int):=O
       have b9:p - 1 < ys.length:=Xv
       obtain⟨b1,o1,bm,Ht,hv1,_,_,_,kg⟩:=J.o.sl.at_ Xv
       have bc:=(OM hv1).1
       subst bc
       have hs:=J.o.sl
       rw[HM.o] at hs
       obtain⟨y0,_⟩:=hs.Lz (p - 1) b9
       exact Ma
      ·exact M8
    case rest=>
     obtain⟨p,hp,rfl,HP,HL,a9⟩:=hcut
     obtain⟨w3,rfl⟩:∃w3:Oc,w3=wc:=⟨_,rfl⟩
     have Hw:Z (TlR w w3 x box (RO A1 m c1) k ys h):=V (by rw[a9.o];exact J.o)
     have a6:Z (NR x box (k+1) (ys.take p++⟨u,d.p.id,d.p.mod⟩ :: ys.drop p)):=V (by
      have h1:=Hw.o.p.ins HV.o L (by rw[B.o.1];exact Ep) (p:=p) JE (fun i hi hpi=>by rw[B.o.1];exact HP.o i hi hpi) (fun h0=>by rw[B.o.1];exact HL.o h0 Xv)
      rw[B.o.1,B.o.2] at h1
      exact h1)
     have t:=Hw.o.sl
     rw[HM.o] at t
     have a7:=V t
     clear HP HL a9 J t
     go_upto_region 12 with(first
      |(at_builtin;refine yc rfl _ _ 35 rfl underlying35 hi be bh bi rfl zD a7.o rfl 1 1 rfl rfl xt yV O ?_;intro v4 h4 w4 a3 ae ap;have R:=V a3;have a5:=V ae;have Hu:=V ap;obtain⟨A4,c4,rfl,_,_⟩:=a3.form;clear a3 ae ap)
      |fail)
     obtain⟨b4,o4,bo,b3,av,_,_,bj,_⟩:=R.o.at_ O
     have bd:=(OM av).1
     subst bd b3
     have au:=Hw.o.below.size
     have ad:w.heap.size≤b4:=by
      exact Ha
     have a':Z (Od w w w4):=V (Hw.o.below.trans (a5.o.below au fun k hk=>Hw.o.own k yi))
     have S:Z (TlS w w4 (RO (some (Y b4 o4)) (m+1) c4) b4 (m+1) ys m):=V ⟨a'.o,⟨0,0,0⟩,by
      rw[Ou YP,List.drop_of_length_le YP,OQ]
      exact R.o⟩
     have D:=V ad
     have b6:Ov.wrap ((m:Int)+1 - 1)=(m:Int):=by
      exact po
     have b7:((m+1:Nat):Int) - 1=(m:Int):=O
     have a0:Ov.wrap (m:Int)=(m:Int):=Og _ O
     clear a7 a5 Hu R av au ad
     go_upto_block 4 with(fail)
     clear b6 b7 a0
     go_cut [] (fun wx=>Z (TlS w wx (RO (some (Y b4 o4)) (m+1) c4) b4 (m+1) ys p))
     case first=>
      go_wp2_with fail
      go_loopw [10] (fun a wr=>∃r:Nat,p≤r∧r≤m∧a=I r∧Z (TlS w wr (RO (some (Y b4 o4)) (m+1) c4) b4 (m+1) ys r)) (fun a _=>(intOf a).toNat)
      case atStart=>exact⟨m,hp,Oq _,zE,S⟩
      case round=>
       clear S
       obtain⟨r,bw,bb,rfl,HT⟩:=hrel
       by_cases bk:p < r
       ·obtain⟨z,hst⟩:=HT.o.ex
        have aq:0 < r:=O
        have ar:r≤ys.length:=by rw[HM.o];exact bb
        have Hq:(ys.take r++z :: ys.drop r).length=m+1:=by
         exact Jq
        obtain⟨y0,_⟩:=hst.Lz (r - 1) Zi
        obtain⟨x0,xf⟩:=hst.Lz r Zi
        have yj:(ys.take r++z :: ys.drop r)[r - 1]?=some (ys[r - 1]' O):=Q6 ys r aq ar z
        have N:(ys.take r++z :: ys.drop r)[r - 1]' Zi=ys[r - 1]' O:=by
         exact IG
        rw[N] at y0
        obtain⟨y,hy⟩:∃y,ys[r - 1]' O=y:=⟨_,rfl⟩
        have F:=Jf ys r aq ar z
        have f:=hst.LY r y
        rw[←hy,F,hy] at f
        rw[hy] at y0
        have HZ:Z (TlS w (wr.setCell (Y b4 (o4+r)) (I y.uid)) (RO (some (Y b4 o4)) (m+1) c4) b4 (m+1) ys (r - 1)):=V ⟨HT.o.below.setCell D.o _,y,by rw[←hy];rw[←hy] at f;exact f⟩
        have i2:0≤(r:Int) - 1:=O
        have i3:((r:Int) - 1).toNat=r - 1:=O
        have i4:((r - 1:Nat):Int)=(r:Int) - 1:=O
        have oq:=V i4
        generalize (ys.take r++z :: ys.drop r)[r]' Zi=zz at x0
        clear hst yj N F f i4 Hq hy
        exact Nl
       ·exact GR
     case rest=>
      have HT:=hcut
      clear hcut S
      obtain⟨w5,rfl⟩:∃w5:Oc,w5=wc:=⟨_,rfl⟩
      obtain⟨z,hst⟩:=HT.o.ex
      have b8:p≤ys.length:=JE
      have Hq:(ys.take p++z :: ys.drop p).length=m+1:=by
       exact Jq
      obtain⟨x0,xf⟩:=hst.Lz p Zi
      have f:=hst.LY p ⟨u,d.p.id,d.p.mod⟩
      rw[Je ys p b8 z] at f
      simp only at f
      have U:(ys.take p++(⟨u,d.p.id,d.p.mod⟩:NL) :: ys.drop p).length=m+1:=by
       exact Jq
      have HZ:Z (TlO w (w5.setCell (Y b4 (o4+p)) (I u)) x box (k+1) (RO (some (Y b4 o4)) (m+1) c4)):=V ⟨_,_,_,ys.take p++⟨u,d.p.id,d.p.mod⟩ :: ys.drop p,some b4,rfl,U,HT.o.below.setCell D.o _,by rw[U];exact f,fun b hb=>by injection hb with hb;rw[←hb];exact D.o,a6.o⟩
      generalize (ys.take p++z :: ys.drop p)[p]' Zi=zz at x0
      have ba:(0:Int)≤(p:Int):=O
      have bv:(p:Int) < (m:Int)+1:=O
      clear hst f Hq U
      exact E0
  ·have b5:k=n:=O
   subst b5
   have a4:ys=(N9 x box).map Ua:=NR.all (by rw[ai.o];exact v.o.p) HV.o
   have aw:m=(N9 x box).length:=by rw[←HM.o,a4,Ow]
   have b2:=V a4
   have aa:=V aw
   clear a4 aw
   go_wp2_with fail
   go_ret
   exact⟨A1,c1,h,by rw[aa.o];rfl,by
    rw[←aa.o,←eU_map,←b2.o]
    have h1:=v.o.sl
    rw[HM.o] at h1
    exact h1,zj az.o v.o.below⟩
end
end Go.Proofs.YtnofkliaofgiaaaGreatDoor
