/-
  A slice of turns that came in: an act each, and two numbers; law 24's heavy. The walk of law 24's begun, over any acts. The program's New of a mailbox that there is not, its Told of a place that there is not; two accounts and two views side by side: what turns the one leaves the others.
-/
import Derived.Test.YtnofkliaofgiaaaGreatDoorGV
import Derived.Test.YtnofkliaofgiaaaGreatDoorGVE
import Derived.Test.YtnofkliaofgiaaaGreatDoorGRW
import Derived.Test.YtnofkliaofgiaaaGreatDoorGVA
set_option maxRecDepth 100000
set_option maxHeartbeats 8000000
open Go.Proofs.Tryz
open Bool renaming and_eq_true→PP
open Exists renaming intro→OA
open Go renaming TypeId→Pa,Value→Oe,World→Oc
open Go.DataW renaming trod→Rw,trod_int→Ro
open Go.Ending renaming returned→RR
open Go.IntKind renaming i64→Ov
open Go.IntWalk renaming i64_in→Og
open Go.Proofs renaming enters_of→O9
open Go.RowKit renaming Below→Od
open Go.RowKit.Below renaming refl→Ok
open Go.Value renaming pointer→RQ,slice→RO,string→RP
open Go.Value.slice renaming inj→OM
open List renaming getElem_mem→Oj,length_cons→OT,length_map→Ow,map_append→OQ,mem_append→OO,mem_cons→OB,mem_map→OL,mem_map_of_mem→OV,take_of_length_le→Ou,take_succ_eq_append_getElem→Oh
open Nat renaming add_assoc→O1,le_refl→Oq,le_trans→Ol,zero_le→OE
open Option renaming mem_toList→Pe
open Option.some renaming inj→O6
open _root_ renaming List→Ob,Option→OC
namespace Go.Proofs.YtnofkliaofgiaaaGreatDoor
section
open Go.ChangeShapes Go.WideShapes Go.ChangeAt Go.RowKit
structure Qu where
 a:gP
 how:Int
 n:Int
instance:Inhabited Qu:=⟨⟨default,0,0⟩⟩
def Xe (t:Qu):Ob Oe:=uQ t.a++[I t.how,I t.n]
theorem YD (t:Qu):(Xe t).length=8:=rfl
def rM (w:Oc)(t:Qu):Prop:=pX w t.a∧ -9223372036854775808≤t.n∧t.n≤9223372036854775807
theorem turn_in {H:Type}{enc:Pa×Oe→H}{w:Oc}{base:Nat}{spare:Nat→Bool}{held:Bool}{n:Nat}{cs:Ob Oe}{x:DataW H×Ob MemPlace}(hlen:cs.length=8)(h:Rw enc prog w base spare held n 42 cs=some x) :
  ∃y:Qu,cs=Xe y∧rM w y:=by
 obtain⟨u,k,v,t,_,d,c⟩:=DataW.trod_struct underlying42 h
 have o:prog.cellsOf 40=6:=zQ
 have p:prog.cellsOf 3=1:=zQ
 match cs,hlen with
 |[v0,v1,v2,v3,v4,v5,v6,v7],_=>
  have g:=c 0 _ rfl
  have i:=c 1 _ rfl
  have j:=c 2 _ rfl
  match u,d with
  |[y0,y1,y2],_=>
   simp[o,p] at g i j
   obtain⟨a,q,s⟩:=LF underlying40 rfl ⟨⟨rfl,rfl,rfl,rfl,rfl,rfl⟩,zQ,zQ,zQ,zQ,zQ,zQ⟩
    underlying3 underlying3 underlying3 underlying9 rfl rfl underlying35 underlying3 zQ underlying38 underlying9 zQ g
   obtain⟨m,e,_,z⟩:=Ro underlying3 i
   obtain⟨b,f,_,l⟩:=Ro underlying3 j
   simp at e f
   have r:-9223372036854775808≤b∧b≤9223372036854775807:=by
    simp only[Lit.wf,PP,decide_eq_true_eq] at l
    exact l
   refine⟨⟨a,m,b⟩,?_,s,r⟩
   show _=uQ a++_
   rw[←q,e,f]
   rfl
theorem rF {H:Type}{enc:Pa×Oe→H}{w:Oc}{base:Nat}{spare:Nat→Bool}{held:Bool}{fuel:Nat}{v:Oe}{x:DataW H×Ob MemPlace}(h:Rw enc prog w base spare held fuel 23 [v]=some x) :
  ∃l:Ob Qu,NN w [] 8 v l.length (zU Xe l)∧∀a∈l,rM w a:=
 Ut Xe (rM w) O YD underlying23 zQ (fun n cs x hl h2=>turn_in hl h2) h
theorem Uh {w w':Oc}{a:gP}(h:pX w a)(hb:Od w w w'):pX w' a:=⟨h.1.below hb,h.2.below hb⟩
theorem Try.infoAct:(prog.info? 40).map (fun i=>(i.zero,i.size,i.bytes))=some (some (.agg #[I 0,I 0,I 0,RP ⟨#[]⟩,RO none 0 0,RO none 0 0]),6,88):=zQ
structure HvR (w wr:Oc)(l:Ob gP)(k:Nat)(o:Oe):Prop where
 below:Od w w wr
 o:∃h:OC Nat,Sl wr 40 6 o h k (zU uQ (l.take k))∧∀b,h=some b→w.heap.size≤b
theorem cJ (w:Oc)(v v2:Oe)(l:Ob gP)(ts:Ob Qu)(hr:NN w [] 6 v l.length (zU uQ l))(ha:∀a∈l,pX w a)(hr2:NN w [] 8 v2 ts.length (zU Xe ts))(ht:∀t∈ts,rM w t) :
  C 5 #[v,v2] w fun e w'=>∃b,e=RR (.bool b)∧(b=false→ts.length≤60∧Zq ((ts.map (·.a)).map (·.p))=false∧Zq (l.map (·.p))=false)∧Od w w w':=by
 obtain⟨i0,hi,ae,ag,al⟩:=info_parts Try.infoAct
 obtain⟨A,ao,rfl,_,_⟩:=hr.form
 obtain⟨A2,am,rfl,_,_⟩:=hr2.form
 obtain⟨n,hn⟩:∃n,ts.length=n:=⟨_,rfl⟩
 obtain⟨m,hm⟩:∃m,l.length=m:=⟨_,rfl⟩
 have E:∀a∈ts.map (·.a),pX w a:=fun a h=>by
  obtain⟨t,h1,rfl⟩:=OL.1 h
  exact(ht t h1).1
 have X:=fun W (s:Od w w W)=>jB _ l W (hr.below s) (fun a h=>Uh (ha a h) s)
 have J:=V X
 rw[hm] at J
 have M:Z (HvR w w (ts.map (·.a)) 0 (RO none 0 0)):=V ⟨Ok _ _,none,by simpa[zU] using Sl.nil w 40 6,fun b s=>by cases s⟩
 have a9:=V hr2
 have D:=V E
 have HN:=V hn
 obtain⟨ad,G⟩:∃b,Zq (l.map (·.p))=b:=⟨_,rfl⟩
 rw[G] at J ⊢
 rw[hn,hm]
 clear hr ha hr2 ht hn E X hm G
 go_enter func5,ntmps5
 go_upto_block 0 with(fail)
 go_cut [5] (fun o wx=>∃(k:Nat) (A:OC Addr) (c:Nat),k=min n 70∧o=RO A k c∧Z (HvR w wx (ts.map (·.a)) k (RO A k c)))
 case first=>
  go_wp2_with fail
  go_loopw [5,6] (fun o iv wr=>∃k:Nat,k≤n∧k≤70∧iv=I k∧Z (HvR w wr (ts.map (·.a)) k o)) (fun _ iv _=>n - (intOf iv).toNat)
  case atStart=>exact⟨0,OE _,O,rfl,M⟩
  case round=>
   clear M
   obtain⟨k,hk,an,rfl,z⟩:=hrel
   obtain⟨f,h0,q,x⟩:=z.o
   obtain⟨A0,c0,rfl,_,_⟩:=q.form
   by_cases af:k < n
   ·have g1:(k:Int) < (n:Int):=O
    by_cases ap:k < 70
    ·have g2:(k:Int) < 70:=O
     have aq:(0:Int)≤(k:Int):=O
     have ar:Ov.wrap ((k:Int)+1)=(k:Int)+1:=Og _ O
     have P:k < ts.length:=Zg
     obtain⟨L,S,c1,B,_,_,a0,_,F⟩:=a9.o.at_ V3
     obtain⟨rfl,_,rfl⟩:=OM B
     have d:∀j,j < 6→wr.cell? (Y L (S+k * 8+j))=(uQ ts[k].a)[j]?:=fun j hj=>by
      rw[O1]
      refine(f.cell a0).trans ((F (k * 8+j) O).trans ?_)
      rw[yv YD ts k j P O]
      show (uQ _++_)[j]?=_
      exact List.getElem?_append_left hj
     have r:zU uQ ((ts.map (·.a)).take (k+1))=zU uQ ((ts.map (·.a)).take k)++uQ ts[k].a:=by
      rw[Oh (by rw[Ow];exact P),uI,List.getElem_map]
     obtain⟨va,a6⟩:=(D.o ts[k].a (OV (Oj P)))
     obtain⟨Ab,cb,Q,_,_⟩:=va.form
     obtain⟨Ak,ck,R,_,_⟩:=a6.form
     obtain⟨⟨⟨op,id,at_,nm,bs,ks⟩,vb,vk⟩,a5⟩:∃a,ts[k].a=a:=⟨_,rfl⟩
     rw[a5] at d r Q R
     simp only at Q R
     subst Q R
     obtain⟨nb,a1⟩:∃nb,bs.length=nb:=⟨_,rfl⟩
     obtain⟨nk,a2⟩:∃nk,ks.length=nk:=⟨_,rfl⟩
     simp only[uQ,a1,a2] at d r
     have z0:wr.cell? (Y L (S+k * 8))=some (I op):=d 0 O
     have z1:wr.cell? (Y L (S+k * 8+1))=some (I id):=d 1 O
     have z2:wr.cell? (Y L (S+k * 8+2))=some (I at_):=d 2 O
     have z3:wr.cell? (Y L (S+k * 8+3))=some (RP ⟨nm.toArray⟩):=d 3 O
     have z4:wr.cell? (Y L (S+k * 8+4))=some (RO Ab nb cb):=d 4 O
     have z5:wr.cell? (Y L (S+k * 8+5))=some (RO Ak nk ck):=d 5 O
     have aa:=V q
     have u:=V f
     have T:=V x
     have K:=V r
     clear f q x r d F B a0 a5 va a6 a1 a2 z
     go_wp2_with (first
      |(at_builtin;refine yc rfl _ _ 22 rfl underlying22 hi ae ag al rfl zD aa.o rfl 1 1 rfl rfl ?_ ?_ ?_ ?_)
      |fail)
     ·simp[Value.oneCell']
     ·unfold maxLen
      omega
     ·omega
     ·intro v5 h5 w5 a4 U a3
      have ow:Z (HvR w w5 (ts.map (·.a)) (k+1) v5):=V (by
       have hz:=u.o.size
       refine⟨u.o.trans (U.below hz fun i hi=>T.o i vq),h5,by rw[K.o];exact a4,fun b s=>?_⟩
       rcases a3 with h3|⟨g,h3,h4⟩
       ·exact T.o b (h3 ▸ s)
       ·rw[h3] at s
        injection s with s
        omega)
      clear a4 U a3
      exact EK
    ·have g2:¬(k:Int) < 70:=O
     clear f q x
     go_wp2_with fail
     go_meet
     exact⟨k,A0,c0,O,rfl,z⟩
   ·have g1:¬(k:Int) < (n:Int):=O
    clear f q x
    go_wp2_with fail
    go_meet
    exact⟨k,A0,c0,O,rfl,z⟩
 case rest=>
  obtain⟨k,A0,c0,hk,rfl,z⟩:=hcut
  obtain⟨wa,rfl⟩:∃wa:Oc,wa=wc:=⟨_,rfl⟩
  clear M
  by_cases ab:n≤60
  ·have g1:¬(60:Int) < (n:Int):=O
   have ac:k=n:=O
   subst ac
   obtain⟨f,h0,q,x⟩:=z.o
   rw[Ou (by rw[Ow,HN.o];exact Oq _)] at q
   have N:=jB (RO A0 k c0) (ts.map (·.a)) wa (by rw[Ow,HN.o];exact q.reads [] zv) (fun a h=>Uh (D.o a h) f)
   obtain⟨B,y⟩:∃b,Zq ((ts.map (·.a)).map (·.p))=b:=⟨_,rfl⟩
   rw[y] at N
   have a8:=V y
   have u:=V f
   clear f q x z y hk
   cases B
   all_goals
    go_wp2_with (first
     |(go_at_call 25;(with_reducible refine N.mono ?_);rintro e w1 ⟨rfl,s⟩;have H:=V (zj u.o s);clear s N)
     |(go_at_call 25;(with_reducible refine(J.o _ H.o).mono ?_);rintro e w2 ⟨rfl,s⟩;have a7:=V (zj H.o s);clear s)
     |fail)
    go_ret
   ·exact⟨ad,zv,fun h=>⟨ab,a8.o,h⟩,a7.o⟩
   ·exact⟨true,rfl,fun h=>(by cases h),H.o⟩
  ·have g1:(60:Int) < (n:Int):=O
   have u:=V z.o.below
   clear z
   go_wp2_with fail
   go_ret
   exact⟨true,rfl,fun h=>(by cases h),u.o⟩
end
section
open Go.Shelf Go.RowKit Go.Lib
attribute [local go_sem ↓] Go.wp_at_zero Go.wp_at_succ
def wA (x:Acc)(acs:Ob Uc):Acc:=acs.foldl (fun x a=>(N5 x a).1) x
theorem DF (x:Acc)(acs:Ob Uc)(a:Uc):wA x (acs++[a])=(N5 (wA x acs) a).1:=by simp[wA]
structure VL (x:Acc)(n:Nat):Prop where
 viv:NW x
 room:lZ x
 zA:x.zA≤1+n
theorem VL.act {x:Acc}{n:Nat}(h:VL x n)(a:Uc):VL (N5 x a).1 (n+1):=⟨AP h.viv a,KE h.viv.fit h.room a,by have:=(AL x a).1;have:=h.zA;omega⟩
theorem VL.new:VL (Yt YK) 0:=⟨Le rG,CO zD,by show (1:Int)≤_;omega⟩
theorem VL.run {x:Acc}{n:Nat}(h:VL x n):∀acs:Ob Uc,VL (wA x acs) (n+acs.length)
 |[]=>h
 |a :: r=>by
  have h1:=(h.act a).run r
  rw[OT,show n+(r.length+1)=n+1+r.length by omega]
  exact h1
theorem VL.more {x:Acc}{n m:Nat}(h:VL x n)(hm:n≤m):VL x m:=⟨h.viv,h.room,by have:=h.zA;omega⟩
theorem VL.zC {x:Acc}{n:Nat}(h:VL x n):x.zC.length≤1+n:=by
 have a:=h.viv.fit.nm
 have b:=h.zA
 omega
theorem VL.N8 {x:Acc}{n:Nat}(h:VL x n)(hn:n≤1000)(box:Int):∀z∈N9 x box,NY z:=fun z hz=>by
 obtain⟨g1,g2,g3⟩:=Xp hz
 have h1:=Jp h.viv hz
 have h2:=h.viv.km.mod _ g1
 have h3:=h.zA
 refine⟨O,O,by have:=(h.viv.fit.mail _ g1).keys;omega,fun s hs=>?_⟩
 have h4:=h.viv.km.keys _ g1 s hs
 unfold xD at h4
 simp only[PP,decide_eq_true_eq] at h4
 omega
theorem bZ (w:Oc)(v:Oe)(l:Ob gP)(hr:NN w [] 6 v l.length (zU uQ l))(ha:∀a∈l,pX w a)(hv:Zq (l.map (·.p))=false) :
  C 7 #[v] w fun e w'=>∃g q g2 q2,e=RR (.tuple #[Y g 0,Y g2 0])∧V9 w w' g q g2 q2 (wA (Yt YK) (l.map (·.p))):=by
 have hW:=fun W=>rH W
 have hN:=fun W=>rh 1000 100 1048576 1073741824 1073741824 10000 200 Zu Zu Zu Zu Zu Zu Zu W
 have hR:=fun W=>dH [117] [112] zD zD 1000 100 1048576 1073741824 1073741824 10000 200 7 O (fun j hj=>by
  have:j=0∨j=1∨j=2∨j=3∨j=4∨j=5∨j=6:=O
  rcases this with rfl|rfl|rfl|rfl|rfl|rfl|rfl <;> (unfold lim;decide)) (fun h=>by omega) true zD W
 obtain⟨A,a7,rfl,_,_⟩:=hr.form
 obtain⟨n,X⟩:∃n,l.length=n:=⟨_,rfl⟩
 have a5:n≤60:=by
  have H:=(XT hv).1
  rw[Ow,X] at H
  exact H
 have HW:=V hW
 have a1:=V hN
 have a3:=V hR
 have HR:=V hr
 have HA:=V ha
 have HV:=V hv
 have ai:=V X
 rw[X]
 clear hW hN hR hr ha hv X
 go_enter func7,ntmps7
 go_wp2_with (first
  |(go_at_call 27;refine(a1.o _).mono ?_;rintro e w2 ⟨g,q,rfl,R⟩;have HO:=V R;clear R)
  |(go_at_call 29;refine(a3.o _).mono ?_;rintro e w4 ⟨R,_⟩;obtain⟨g2,q2,rfl,S⟩:=R rfl;have G:Z (V9 w w4 g q g2 q2 (Yt YK)):=V (V9.made E.o HO.o F.o S);clear S R)
  |(go_at_call 28;with_reducible refine(HW.o w2).mono ?_;rintro e w3 ⟨rfl,K⟩;have F:=V K;clear K)
  |(go_at_call 28;with_reducible refine(HW.o w).mono ?_;rintro e w1 ⟨rfl,J⟩;have E:=V J;clear J)
  |(go_at_call 9;refine(Zd _ _).mono ?_;rintro e wn ⟨rfl,rfl⟩)
  |fail)
 go_loopw [8] (fun iv wr=>∃(k:Nat),k≤n∧iv=I (k:Nat)∧Z (∃q q2,V9 w wr g q g2 q2 (wA (Yt YK) ((l.take k).map (·.p))))) (fun iv _=>n - (intOf iv).toNat)
 case atStart=>exact⟨0,OE _,rfl,V ⟨q,q2,G.o⟩⟩
 case round=>
  clear G HO E F
  obtain⟨k,hk,rfl,HQ⟩:=hrel
  obtain⟨q,q2,hu⟩:=HQ.o
  have U:=V hu
  clear hu HQ
  by_cases af:k < n
  ·have N:(k:Int) < (n:Int):=O
   have z:k < l.length:=vN
   have a8:(0:Int)≤(k:Int):=O
   have a9:Ov.wrap ((k:Int)+1)=(k:Int)+1:=Og _ O
   have s:=VL.new.run ((l.take k).map (·.p))
   have B:(l.take (k+1)).map (·.p)=(l.take k).map (·.p)++[l[k].p]:=by
    rw[Oh z,OQ]
    rfl
   obtain⟨d,m⟩:∃d,l[k]=d:=⟨_,rfl⟩
   have r:d∈l:=m ▸ Oj z
   rw[m] at B
   obtain⟨u,D,a6,T,_,_,M,_,t⟩:=HR.o.at_ O
   have e1:=(OM T).1
   subst e1
   have b:∀W,Od w w W→∀j,j < 6→W.cell? (Y u (D+k * 6+j))=(uQ d)[j]?:=fun W hb j hj=>by
    rw[O1]
    refine(hb.cell M).trans ((t (k * 6+j) O).trans ?_)
    rw[yv Xc l k j z hj,m]
   obtain⟨x,hx⟩:∃x,wA (Yt YK) ((l.take k).map (·.p))=x:=⟨_,rfl⟩
   rw[hx] at U s
   have y:=qu w wr g q g2 q2 x d.p.op d.p.id d.p.at_ d.p.name d.p.zg d.p.keys d.vb d.vk (LI U.o s.viv.fit s.room HA.o HV.o r)
   have a2:Z (wA (Yt YK) ((l.take (k+1)).map (·.p))=(N5 x d.p).1):=V (by rw[B,DF,hx])
   have c:=U.o.st.below
   have f:=(HA.o _ r).1.form
   have i:=(HA.o _ r).2.form
   obtain⟨⟨op,id,at_,nm,bs,ks⟩,vb,vk⟩:=d
   have z0:wr.cell? (Y u (D+k * 6))=some (I op):=b wr c 0 O
   have z1:wr.cell? (Y u (D+k * 6+1))=some (I id):=b wr c 1 O
   have z2:wr.cell? (Y u (D+k * 6+2))=some (I at_):=b wr c 2 O
   have z3:wr.cell? (Y u (D+k * 6+3))=some (RP ⟨nm.toArray⟩):=b wr c 3 O
   have z4:wr.cell? (Y u (D+k * 6+4))=some vb:=b wr c 4 O
   have z5:wr.cell? (Y u (D+k * 6+5))=some vk:=b wr c 5 O
   simp only at f i y
   obtain⟨Ab,cb,f,_,_⟩:=f
   obtain⟨Ak,ck,i,_,_⟩:=i
   obtain⟨nb,P⟩:∃nb,bs.length=nb:=⟨_,rfl⟩
   obtain⟨nk,Q⟩:∃nk,ks.length=nk:=⟨_,rfl⟩
   rw[P] at f
   rw[Q] at i
   subst f i
   clear b t T m r M c P Q s B hx
   go_wp2_with (first
    |(go_at_call 17;refine y.mono ?_;rintro e1 w8 ⟨rfl,q8,q9,L,_⟩;have a0:=V L;clear L y)
    |fail)
   have K1:Z (∃q q2,V9 w w8 g q g2 q2 (wA (Yt YK) ((l.take (k+1)).map (·.p)))):=V ⟨q8,q9,by rw[a2.o];exact a0.o⟩
   exact FA
  ·have N:¬(k:Int) < (n:Int):=O
   have a4:k=n:=O
   subst a4
   have K1:Z (V9 w wr g q g2 q2 (wA (Yt YK) (l.map (·.p)))):=V (by
    have H:=U.o
    rw[Ou aW] at H
    exact H)
   go_wp2_with fail
   refine bodyPost_ret (results_tmp2 rfl _ _ _) rfl ?_
   first|exact⟨g,q,g2,q2,rfl,K1.o⟩|exact⟨g,g2,rfl,q,q2,K1.o⟩|exact⟨g,⟨g2,rfl⟩,q,q2,K1.o⟩|exact⟨g,q,g2,rfl,q2,K1.o⟩
end
end Go.Proofs.YtnofkliaofgiaaaGreatDoor
