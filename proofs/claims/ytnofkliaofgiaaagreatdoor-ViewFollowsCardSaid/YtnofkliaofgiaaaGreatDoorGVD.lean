/-
  The walk of view.New over a mailbox that there is. What the view's Update keeps from step to step: the view, the text so far, the mailbox's emails. How long the texts of an update are. The walks of the view's Uids and Ids, and of what a view that there is not answers. The walk of the view's Told, of a message that there is.
-/
import Derived.Test.YtnofkliaofgiaaaGreatDoorGVC
import Derived.Test.YtnofkliaofgiaaaGreatDoorGVB
import Derived.Test.YtnofkliaofgiaaaGreatDoorGD
import Derived.Test.YtnofkliaofgiaaaGreatDoorGVA
import Derived.Test.YtnofkliaofgiaaaGreatDoorGN
import Derived.Deep.QuietTactic
set_option maxRecDepth 100000
set_option maxHeartbeats 8000000
open Go.Proofs.Tryz
open Exists renaming intro→OA
open Go renaming Value→Oe,World→Oc
open Go.Ending renaming returned→RR
open Go.IntKind renaming i64→Ov
open Go.IntWalk renaming i64_in→Og
open Go.Lib renaming join→Rk
open Go.Proofs renaming enters_of→O9
open Go.RowKit renaming Below→Od
open Go.RowKit.Below renaming refl→Ok
open Go.Value renaming pointer→RQ,slice→RO,string→RP
open Go.World renaming size_alloc→O3
open List renaming append_assoc→O4,cons_append→PO,drop_eq_getElem_cons→O7,filter_cons_of_pos→PM,foldl_cons→Pm,getElem?_eq_getElem→Ot,getElem?_eq_some_iff→OX,getElem?_map→O5,getElem_mem→Oj,getElem_set_self→Ph,length_append→Oo,length_cons→OT,length_drop→O8,length_eraseIdx_of_lt→Pq,length_map→Ow,length_set→Pd,length_singleton→Pf,length_take→OU,map_append→OQ,mem_cons_of_mem→OP,mem_cons_self→PV,mem_of_find?_eq_some→O2,nil_append→PE,take_of_length_le→Ou,take_succ_eq_append_getElem→Oh
open Nat renaming add_assoc→O1,le_refl→Oq,le_trans→Ol,lt_of_lt_of_le→OJ,zero_le→OE
open Option.some renaming inj→O6
open _root_ renaming List→Ob,Option→OC,decide_eq_false→OD,decide_eq_true→OS,if_neg→Om,if_pos→OG
namespace Go.Proofs.YtnofkliaofgiaaaGreatDoor
section
open Go.Shelf Go.RowKit Go.Lib
attribute [local go_sem ↓] Go.wp_at_zero Go.wp_at_succ
theorem QS (box:Int)(B:Nat)(w W:Oc)(x:xA)(h0:w.cell? (Y B 0)=some (I box))(hlt:B < w.heap.size)(hb:Od w w W) :
  C 32 #[.agg (uZ x).toArray,Y B 0] W fun e w'=>e=RR (.bool (decide (x.id=box)))∧Od W W w':=by
 have l:W.cell? (Y B 0)=some (I box):=(hb.cell hlt).trans h0
 have i:B < W.heap.size:=OJ hlt hb.size
 have j:B≠W.heap.size:=O
 obtain⟨a,b,c,d,e,f⟩:=x
 simp only[uZ,Qh]
 obtain⟨h,g⟩:∃h,decide (a=box)=h:=⟨_,rfl⟩
 have k:(a==box)=h:=by rw[←g];rfl
 rw[g]
 clear g h0 hb
 go_enter func32,ntmps32
 go_wp2
 go_ret
 exact⟨rfl,(Ok _ _).alloc (Oq _) _⟩
theorem qI:∀(zs:Ob (Int×zR)) (v:yI),(zs.foldl UV v).box=v.box∧(zs.foldl UV v).l.length=v.l.length+zs.length
 |[],_=>⟨rfl,rfl⟩
 |z :: r,v=>by
  obtain⟨h1,h2⟩:=qI r (UV v z)
  rw[Pm]
  refine⟨h1,h2.trans ?_⟩
  show (v.l++[_]).length+r.length=_
  rw[Oo,Pf,OT]
  omega
structure NB (w wr:Oc)(gv:Nat)(q:xa)(box:Int)(zs:Ob (Int×zR))(v:Oe)(l:Ob NQ)(k:Nat):Prop where
 at_:yN wr gv q (jV box (zs.take k))
 own:∀i∈q.own gv,w.heap.size≤i
 there:uY wr v l
 below:Od w w wr
theorem NB.next {w wr W w':Oc}{gv k:Nat}{q q':xa}{box:Int}{zs:Ob (Int×zR)}{v:Oe}{l:Ob NQ}(h:NB w wr gv q box zs v l k)(hz:l.map NQ.z=zs)(hk:k < l.length)(hb:Od wr wr W)(hv:xc W w' gv q (UV (jV box (zs.take k)) l[k].z) q'):NB w w' gv q' box zs v l (k+1):=by
 have c:=h.at_.later hb
 have a:=zj h.below hb
 refine⟨?_,fun i hi=>?_,(h.there.later hb).Xo (E:=fun t=>¬NV t) (uB.dA hv.N4 fun i hi=>?_) ZY ZY ZY,a.trans (hv.N4.below a.size h.own)⟩
 ·have b:jV box (zs.take (k+1))=UV (jV box (zs.take k)) l[k].z:=by
   unfold jV
   have d:k < zs.length:=by rw[←hz,Ow];exact hk
   rw[Oh d,List.foldl_append]
   have:zs[k]=l[k].z:=by simp[←hz]
   rw[this]
   rfl
  rw[b]
  exact hv.at_
 ·rcases hv.own i hi with b|b
  ·exact h.own i b
  ·exact Ol a.size b
 ·obtain⟨t,e,f,g⟩:=c.typed hi
  exact⟨t,e,f,fun h=>h g⟩
theorem VO (w:Oc)(g:Nat)(q:zW)(x:Acc)(h:zH w g q x)(hn:Qt x)(hbn:x.zg.length≤1099511627776)(box:Int)(hbx:zZ x.zg box=true)(zs:Ob (Int×zR))(hp:zs.Perm (vW x.zC box))(hr:(zs.map (·.1)).Pairwise (· < ·))(hz:zs.length≤1099511627776) :
  C 8 #[Y g 0,I box] w fun e w'=>∃gv qv,e=RR (.tuple #[Y gv 0,I 0])∧xN w w' gv qv (jV box zs)∧Od w w w':=by
 have eg:∀args w,(callFunc 32 args).run prog w=.ok (.enter 32 args) w:=O9 func32 zQ rfl
 obtain⟨s,hs⟩:∃s,w.heap.size=s:=⟨_,rfl⟩
 have P:=zt w (.cells #[I box] 3)
 have N:NG (w.alloc (.cells #[I box] 3)) s 3 #[I box]:=by rw[←hs];exact NG.new w _ _
 have Q:=fun W (hb:Od w w W)=>iG W g q x (h.later hb) hbn
 have D:x.zg.any (fun b=>decide (b.id=box))=true:=hbx
 have G:=fun W (vv:Oe) (hr:NN W [] 6 vv x.zg.length (zU uZ x.zg)) (h0:W.cell? (Y s 0)=some (I box)) (hl:s < W.heap.size)=>Vf vv [] x.zg (fun b=>decide (b.id=box)) 32 #[Y s 0] eg W hr hbn (fun W2 hb2 y _=>(QS box s W W2 y h0 hl hb2).mono fun _ _ ⟨he,hb3⟩=>⟨he,zj hb2 hb3⟩)
 rw[D] at G
 have X:=fun W (hb:Od w w W)=>VX W g q x (h.later hb) hn box zs hp hr hz
 have S:(((Y g 0):Addr)==⟨g,0,none⟩)=true:=zv
 have a7:=V Q
 have a8:=V G
 have ab:=V X
 have K:=V N
 have L:=V P
 have aa:=V hs
 clear Q G X N P h hn hbn hbx hp hr D eg S
 go_enter func8,ntmps8
 go_wp2_with (first
  |(go_at_call 31;refine(a7.o _ L.o).mono ?_;rintro e w2 ⟨v2,h2,rfl,H,k2,t⟩;have B2:=V (K.o.below t K.o.lt);have L2:=V (zj L.o t);have K1:=V (H.reads [] zv);have y2:w2.cell? (Y s 0)=some (I box):=B2.o.cell 0;have z2:s < w2.heap.size:=B2.o.lt;obtain⟨A2,c2,rfl,_,_⟩:=H.form;clear H k2 t)
  |(go_at_call 30;refine(a8.o w2 _ K1.o y2 z2).mono ?_;rintro e w3 ⟨rfl,t⟩;have B3:=V (B2.o.below t B2.o.lt);have L3:=V (zj L2.o t);have y3:w3.cell? (Y s 0)=some (I box):=B3.o.cell 0;have ad:=B3.o.lt;have L4:=V (zj L3.o (zt w3 (.cells #[I box,RO none 0 0,I 0] 78)));have y4:(w3.alloc (.cells #[I box,RO none 0 0,I 0] 78)).cell? (Y s 0)=some (I box):=(B3.o.alloc _).cell 0;clear t y2 z2)
  |(go_at_call 33;refine(ab.o _ L4.o).mono ?_;rintro e w5 ⟨v5,l,rfl,H,k2,t⟩;have K5:=V H;have T5:=V k2;have L5:=V (zj L4.o t);have V5:=V ((NG.new w3 78 #[I box,RO none 0 0,I 0]).below t zv);obtain⟨A5,c5,rfl,_,_⟩:=k2.rd.form;clear H k2 t)
  |fail)
 obtain⟨gv,u⟩:∃gv,w3.heap.size=gv:=⟨_,rfl⟩
 rw[u] at V5
 try rw[u]
 have a9:Z (w.heap.size≤gv):=V (by rw[←u];exact L3.o.size)
 obtain⟨n,r⟩:∃n,l.length=n:=⟨_,rfl⟩
 have ao:n≤1099511627776:=by rw[←r,←Ow (f:=NQ.z),K5.o];exact hz
 have F:Z (NB w w5 gv ⟨none,RO none 0 0,[]⟩ box zs (RO A5 l.length c5) l 0):=V ⟨⟨V5.o,rfl,Sl.nil _ _ _,fun m hm=>(by cases hm),List.nodup_nil⟩,fun i hi=>(by
  rcases xa.UB hi with rfl|h1|⟨m,hm,_⟩
  ·exact a9.o
  ·cases h1
  ·cases hm),T5.o,L5.o⟩
 have qg:=V r
 rw[r] at F
 try rw[r]
 clear r u y3 ad y4
 go_loopw [25] (fun i wr=>∃(k:Nat) (q':xa),k≤n∧i=I k∧Z (NB w wr gv q' box zs (RO A5 n c5) l k)) (fun i _=>n - (intOf i).toNat)
 case atStart=>exact⟨0,_,OE _,rfl,F⟩
 case round=>
  clear F
  obtain⟨k,q',hk,rfl,A⟩:=hrel
  by_cases af:k < n
  ·have R:(k:Int) < (n:Int):=O
   have am:(0:Int)≤(k:Int):=O
   have an:Ov.wrap ((k:Int)+1)=(k:Int)+1:=Og _ O
   have jb:k < l.length:=bB
   obtain⟨z,E9⟩:∃z,l[k]=z:=⟨_,rfl⟩
   obtain⟨b,c,ag,hv,_,_,al,_,aj⟩:=A.o.there.rd.at_ O
   rw[qg.o] at hv aj
   injection hv with hv3 _ hv4
   subst hv3 hv4
   have a:∀j,j < 9→wr.cell? (Y b (c+k * 9+j))=(vI z)[j]?:=fun j hj=>by
    exact pd
   have E:(jV box (zs.take k)).l.length≤1099511627776:=by
    have h1:=(qI (zs.take k) ⟨box,[],0⟩).2
    unfold jV
    rw[h1,OU]
    show 0+_≤_
    omega
   have B:=fun W (hb:Od wr wr W)=>p6 W gv q' _ z (A.o.at_.later hb) E
   have d:Z (∀W,Od wr wr W→C 34 #[Y gv 0,.agg (vI z).toArray] W fun e w'=>e=RR (.tuple #[])∧∃J,Z (NB w w' gv J box zs (RO (some (Y b c)) n c5) l (k+1))):=V (fun W hb=>(B W hb).mono fun e w' ⟨he,J,hq2⟩=>⟨he,J,V (A.o.next K5.o jb hb (by rw[E9];exact hq2))⟩)
   obtain⟨zu,⟨zi,a4,a5,a1,zk,ae,a3,a2⟩,za,zc,zb,zd⟩:=z
   simp only[vI,xV,NQ.m,Qh] at a d
   obtain⟨nk,T⟩:∃nk,zk.length=nk:=⟨_,rfl⟩
   obtain⟨nm,U⟩:∃nm,ae.length=nm:=⟨_,rfl⟩
   rw[T,U] at a d
   have d0:wr.cell? (Y b (c+k * 9))=some (I zu):=a 0 O
   have d1:wr.cell? (Y b (c+k * 9+1))=some (I zi):=a 1 O
   have d2:wr.cell? (Y b (c+k * 9+2))=some (I a4):=a 2 O
   have d3:wr.cell? (Y b (c+k * 9+3))=some (RP ⟨a5.toArray⟩):=a 3 O
   have d4:wr.cell? (Y b (c+k * 9+4))=some (I a1):=a 4 O
   have d5:wr.cell? (Y b (c+k * 9+5))=some (RO za nk zc):=a 5 O
   have d6:wr.cell? (Y b (c+k * 9+6))=some (RO zb nm zd):=a 6 O
   have d7:wr.cell? (Y b (c+k * 9+7))=some (I a3):=a 7 O
   have d8:wr.cell? (Y b (c+k * 9+8))=some (I a2):=a 8 O
   have a6:=V (zt wr (.cells #[I zu,I zi,I a4,Oa a5,I a1,RO za nk zc,RO zb nm zd,I a3,I a2] 85))
   clear aj a B E E9 T U
   go_wp2_with (first
    |(go_at_call 34;refine(d.o _ a6.o).mono ?_;rintro e w7 ⟨rfl,J,M⟩)
    |fail)
   refine⟨?_,zV⟩
   first|exact⟨k+1,J,O,zE,M⟩|((repeat apply OA);exact⟨⟨k+1,J,O,zE,M⟩,rfl⟩)
  ·have ac:k=n:=O
   subst ac
   have R:¬(k:Int) < (k:Int):=O
   have a0:zs.take k=zs:=Ou (by rw[←K5.o,Ow,qg.o];exact Oq _)
   have p:=A.o.at_
   rw[a0] at p
   have v:=V p
   clear p a0
   go_wp2_with fail
   go_ret2
   first|exact⟨gv,q',rfl,⟨v.o,A.o.own⟩,A.o.below⟩|exact⟨gv,rfl,⟨q',v.o,A.o.own⟩,(by rw[←aa.o];exact A.o.below)⟩
end
section
open Go.Shelf Go.RowKit Go.Lib
def yq (l:Ob yx):yx:=40 :: J l l.length++[41]
theorem lM (flags:Ob yx→yx)(zs:Ob (Int×zR)):∀(l:Ob NL) (i:Nat) (m:NL),xU flags zs i (l++[m])=xU flags zs i l++xU flags zs (i+l.length) [m]
 |[],i,m=>by simp[xU]
 |y :: r,i,m=>by
  have h:=lM flags zs r (i+1) m
  rw[PO]
  unfold xU
  rw[h,O4,OT,show i+1+r.length=i+(r.length+1) by omega]
  rfl
structure Vl (is:NL→Bool)(L cur:Ob NL)(i:Nat)(t:yx):Prop where
 le:i≤cur.length
 text:YF is 0 L=t++YF is i (cur.drop i)
 list:L.filter is=cur.take i++(cur.drop i).filter is
 small:cur.length≤L.length
theorem Vl.start (is:NL→Bool)(L:Ob NL):Vl is L L 0 []:=⟨OE _,rfl,rfl,Oq _⟩
theorem Vl.keep {is:NL→Bool}{L cur:Ob NL}{i:Nat}{t:yx}(h:Vl is L cur i t)(hi:i < cur.length)(hm:is cur[i]=true):Vl is L cur (i+1) t:=by
 have e:cur.drop i=cur[i] :: cur.drop (i+1):=(O7 hi)
 refine⟨hi,?_,?_,h.small⟩
 ·rw[h.text,e]
  conv=>lhs;unfold YF
  rw[OG hm]
 ·rw[h.list,e,PM hm,Oh hi,O4]
  rfl
theorem Vl.drop {is:NL→Bool}{L cur:Ob NL}{i:Nat}{t:yx}(h:Vl is L cur i t)(hi:i < cur.length)(hm:is cur[i]=false):Vl is L (cur.eraseIdx i) i (t++VT (i+1) xe):=by
 have e:cur.drop i=cur[i] :: cur.drop (i+1):=(O7 hi)
 have a:cur.eraseIdx i=cur.take i++cur.drop (i+1):=List.eraseIdx_eq_take_drop_succ ..
 have f:(cur.take i).length=i:=Zh
 have b:(cur.eraseIdx i).drop i=cur.drop (i+1):=by
  rw[a]
  conv=>lhs;rw[List.drop_append_of_le_length O]
  rw[List.drop_of_length_le O,PE]
 have d:(cur.eraseIdx i).take i=cur.take i:=by
  rw[a,List.take_append_of_le_length O,Ou O]
 have c:=Pq hi
 refine⟨O,?_,?_,by have:=h.small;omega⟩
 ·rw[h.text,e,b]
  conv=>lhs;unfold YF
  rw[Om (by rw[hm];decide),O4]
 ·rw[h.list,e,b,d,List.filter_cons_of_neg (by rw[hm];decide)]
theorem Vl.done {is:NL→Bool}{L cur:Ob NL}{i:Nat}{t:yx}(h:Vl is L cur i t)(hi:¬i < cur.length):t=YF is 0 L∧cur=L.filter is:=by
 have c:cur.drop i=[]:=List.drop_of_length_le O
 have d:cur.take i=cur:=Ou O
 have b:=h.text
 have a:=h.list
 rw[c] at b a
 rw[d] at a
 refine⟨?_,?_⟩
 ·rw[b]
  simp[YF]
 ·rw[a]
  simp
structure NU (w wr:Oc)(gv:Nat)(qv q:xa)(v:yI)(t:yx)(b7 b9:Nat)(nv:Oe)(l:Ob NQ):Prop where
 turned:xc w wr gv qv v q
 bld:Y4 wr w.heap.size b7 t
 box:NG wr b9 79 #[nv]
 there:uY wr nv l
section
variable {w wr W w':Oc} {gv b7 b9:Nat} {qv q q':xa} {v v':yI} {t s:yx} {nv:Oe} {l:Ob NQ}
theorem NU.later (h:NU w wr gv qv q v t b7 b9 nv l)(hb:Od wr wr W):NU w W gv qv q v t b7 b9 nv l:=
 ⟨h.turned.then hb,h.bld.later hb,h.box.below hb h.box.lt,h.there.later hb⟩
theorem NU.turn (h:NU w wr gv qv q v t b7 b9 nv l)(k:xc wr w' gv q v' q'):NU w w' gv qv q' v' t b7 b9 nv l:=by
 have b:∀i∈q.own gv,∃t a,NG wr i t a∧¬¬NV t:=fun i hi=>by
  obtain⟨t,a,d,e⟩:=h.turned.at_.typed hi
  exact⟨t,a,d,fun h=>h e⟩
 have c:uB (fun t=>¬NV t) wr w':=uB.dA k.N4 b
 exact⟨h.turned.trans k,h.bld.N4 k.N4 (fun i hi=>h.turned.at_.typed hi),c.block _ _ _ ZY h.box,h.there.Xo c ZY ZY ZY⟩
theorem NU.said (h:NU w wr gv qv q v t b7 b9 nv l)(k1:Y4 w' w.heap.size b7 (t++s))(k2:Od w wr w')(k3:uB EV wr w'):NU w w' gv qv q v (t++s) b7 b9 nv l:=by
 refine⟨⟨h.turned.at_.Xo k3 (fun u hu=>by unfold NV at hu;unfold EV;rcases hu with rfl|rfl|rfl <;> decide),?_,h.turned.own⟩,k1,k3.block _ _ _ JA h.box,h.there.Xo k3 JA JA JA⟩
 exact Np
theorem NU.fin (h:NU w wr gv qv q v t b7 b9 nv l)(k2:Od w wr w')(k3:uB EV wr w'):xc w w' gv qv v q:=by
 refine⟨h.turned.at_.Xo k3 (fun u hu=>by unfold NV at hu;unfold EV;rcases hu with rfl|rfl|rfl <;> decide),?_,h.turned.own⟩
 exact Np
theorem NU.below {B:Nat}(h:NU w wr gv qv q v t b7 b9 nv l)(hB:B≤w.heap.size)(hown:∀k∈qv.own gv,B≤k):Od B w wr:=h.turned.N4.below hB hown
end
theorem sP {had:Int}{zs:Ob (Int×zR)}{v:yI}{k:Nat}{z:Int×zR}(h:zs[k]?=some z):yy had (zs.take (k+1)) v=if had < z.1 then UV (yy had (zs.take k) v) z else yy had (zs.take k) v:=by
 obtain⟨b,a⟩:=OX.1 h
 unfold yy
 rw[Oh b,List.foldl_append,a]
 rfl
theorem Ur {had:Int}:∀(zs:Ob (Int×zR)) (v:yI),(yy had zs v).l.length≤v.l.length+zs.length
 |[],_=>Oq _
 |z :: r,v=>by
  have h:=Ur (had:=had) r (if had < z.1 then UV v z else v)
  unfold yy at h ⊢
  rw[Pm,OT]
  refine Ol h ?_
  split
  ·show (v.l++[_]).length+r.length≤_
   rw[Oo,Pf]
   omega
  ·omega
def jK (w:Oc)(g:Nat):Nat:=match w.cell? (Y g 1) with
 |some (RO _ n _)=>n
 |_=>0
theorem yN.jK {w:Oc}{g:Nat}{q:xa}{v:yI}(h:yN w g q v):jK w g=v.l.length:=by
 obtain⟨A,c,b,_,_⟩:=h.msgs.form
 have a:w.cell? (Y g 1)=some q.vl:=h.blk.cell 1
 unfold Proofs.YtnofkliaofgiaaaGreatDoor.jK
 rw[a,b]
theorem AZ (l:Ob NQ)(m:NL):YE (l.map NQ.z) m=(l.find? fun z=>N7 m z.z).map NQ.z:=by
 unfold YE
 rw[List.find?_map]
 rfl
theorem ro {W:Oc}{X:Nat}{t:yx}(h:NG W X 9 #[Oa t]):NN W [] 1 (RO (some (Y X 0)) 1 1) 1 ([t].map encStr):=
 ⟨rfl,.inr ⟨(Y X 0),1,rfl,Oq _,yV,fun _=>⟨rfl,h.lt,zv,fun j hj=>by
  have h0:j=0:=O
  subst h0
  exact h.cell 0⟩⟩⟩
theorem yN.msg {w:Oc}{g:Nat}{q:xa}{v:yI}(h:yN w g q v){n:Nat}(hn:v.l.length=n){A:OC Addr}{c:Nat}(hv:q.vl=RO A n c)(i:Nat)(hi:i < n):∃(b off:Nat) (m:bV) (hi1:i < q.ms.length) (hi2:i < v.l.length),A=some ⟨b,off,none⟩∧b < w.heap.size∧q.ms[i]=m∧v.l[i]=m.p∧w.cell? (Y b (off+i * 3))=some (I m.p.uid)∧w.cell? (Y b (off+i * 3+1))=some (I m.p.id)∧w.cell? (Y b (off+i * 3+2))=some (RQ (some (Y m.t 0))):=by
 have r:=h.len
 have hi1:i < q.ms.length:=O
 have hi2:i < v.l.length:=O
 obtain⟨b,off,o,_,a,_,_,f,d⟩:=h.msgs.at_ O
 rw[hv,hn] at a
 injection a with hv3 _ hv4
 have e:∀j,j < 3→w.cell? (Y b (off+i * 3+j))=(Yv q.ms[i])[j]?:=fun j hj=>by
  rw[O1,(d _ O).1,yv Um q.ms i j hi1 hj]
 refine⟨b,off,q.ms[i],hi1,hi2,hv3,f,rfl,?_,e 0 O,e 1 O,e 2 O⟩
 have k:(q.ms.map (·.p))[i]?=v.l[i]?:=by rw[h.same]
 rw[O5,Ot hi1,Ot hi2] at k
 exact(O6 k).symm
theorem mN (l:Ob bV)(i:Nat):zU Yv (l.eraseIdx i)=(zU Yv l).take (i * 3)++(zU Yv l).drop ((i+1) * 3):=Za Um l i
end
section
theorem Qp (a:Int)(ha:a≤9223372036854775807)(ws:yx):(VT a ws).length≤26+ws.length:=by
 have:=Yi a ha
 unfold VT
 simp only[Oo,OT,List.length_nil]
 omega
theorem Yl (is:NL→Bool):∀(l:Ob NL) (i:Nat),i+l.length≤1099511627776→(YF is i l).length≤40 * l.length
 |[],_,_=>by simp[YF]
 |m :: r,i,h=>by
  rw[OT] at h ⊢
  unfold YF
  split
  ·have:=Yl is r (i+1) O
   omega
  ·have h1:=Yl is r i O
   have h2:=Qp ((i:Int)+1) O xe
   have h3:xe.length=7:=rfl
   rw[Oo]
   omega
structure NY (z:Int×zR):Prop where
 uid:z.1≤9223372036854775807
 mod:z.2.mod≤9223372036854775807
 few:z.2.keys.length≤100
 short:∀s∈z.2.keys,s.length≤300
theorem sI {z:Int×zR}(h:NY z):(yq z.2.keys).length≤30102:=by
 have a:=Ue z.2.keys h.short z.2.keys.length (Oq _)
 have b:=h.few
 exact Iz
def XN (uid:Int)(z:zR):Ob yx:=[Vv,XD uid,Vw,yq z.keys,LS++XD z.mod++[41,41]]
theorem QH (uid:Int)(z:zR):Rk (XN uid z) [32]=Vv++[32]++XD uid++[32]++Vw++[32]++yq z.keys++[32]++(LS++XD z.mod++[41,41]):=by
 unfold XN
 simp[Lib.join_cons,Lib.joinTail]
theorem U2 (i:Nat)(uid:Int)(z:zR):XK yq i uid z=VT (i+1) (Rk (XN uid z) [32]):=by
 rw[QH]
 rfl
theorem QG {z:Int×zR}(h:NY z)(uid:Int)(hu:uid≤9223372036854775807):(Rk (XN uid z.2) [32]).length≤30200:=by
 have d:=sI h
 have e:=Yi uid hu
 have f:=Yi z.2.mod h.mod
 rw[QH]
 have a:Vv.length=10:=rfl
 have b:Vw.length=5:=rfl
 have c:LS.length=8:=rfl
 simp only[Oo,OT,List.length_nil,a,b,c]
 omega
theorem Y1 {zs:Ob (Int×zR)}(hz:∀z∈zs,NY z):∀(l:Ob NL) (i:Nat),(∀m∈l,m.uid≤9223372036854775807)→i+l.length≤1099511627776→(xU yq zs i l).length≤30300 * l.length
 |[],_,_,_=>by simp[xU]
 |m :: r,i,hm,h=>by
  rw[OT] at h ⊢
  have ih:=Y1 hz r (i+1) (fun y hy=>hm y (OP _ hy)) O
  unfold xU
  rw[Oo]
  refine Ol (Nat.add_le_add (b:=30300) ?_ ih) O
  cases hf:YE zs m with
  |none=>simp
  |some z=>
   have hz1:=hz z (O2 hf)
   simp only
   split
   ·rw[U2]
    have h1:=QG hz1 m.uid (hm m (PV ..))
    have h2:=Qp ((i:Int)+1) O (Rk (XN m.uid z.2) [32])
    omega
   ·simp
theorem lK {flags:Ob yx→yx}{zs:Ob (Int×zR)}{m:NL}(i:Nat)(h:YE zs m=none):xU flags zs i [m]=[]∧xi zs m=m:=by
 unfold xU xi
 rw[h]
 exact⟨rfl,rfl⟩
theorem lL {flags:Ob yx→yx}{zs:Ob (Int×zR)}{m:NL}{z:Int×zR}(i:Nat)(h:YE zs m=some z)(hn:¬m.told < z.2.mod):xU flags zs i [m]=[]∧xi zs m=m:=by
 unfold xU xi
 rw[h]
 simp only[Om hn]
 exact⟨rfl,trivial⟩
theorem rE {flags:Ob yx→yx}{zs:Ob (Int×zR)}{m:NL}{z:Int×zR}(i:Nat)(h:YE zs m=some z)(hn:m.told < z.2.mod):xU flags zs i [m]=XK flags i m.uid z.2∧xi zs m={m with told:=z.2.mod}:=by
 unfold xU xi
 rw[h]
 simp only[OG hn]
 exact⟨by simp[xU],trivial⟩
theorem VU {zs:Ob (Int×zR)}{l:Ob NL}{k:Nat}(hk:k < l.length):(l.take (k+1)).map (xi zs)++l.drop (k+1)=((l.take k).map (xi zs)++l.drop k).set k (xi zs l[k]):=by
 rw[Oh hk,OQ,O4]
 have e:l.drop k=l[k] :: l.drop (k+1):=O7 hk
 have a:((l.take k).map (xi zs)).length=k:=by rw[Ow,OU];omega
 rw[List.set_append_right _ _ O,a,Nat.sub_self,e]
 rfl
theorem Vj {zs:Ob (Int×zR)}{l:Ob NL}{k:Nat}(hk:k < l.length)(hk2:k < ((l.take k).map (xi zs)++l.drop k).length):((l.take k).map (xi zs)++l.drop k)[k]=l[k]:=by
 have a:((l.take k).map (xi zs)).length=k:=by rw[Ow,OU];omega
 rw[List.getElem_append_right O,List.getElem_drop]
 congr 1
 omega
theorem Jk {zs:Ob (Int×zR)}{l:Ob NL}{k:Nat}:((l.take k).map (xi zs)++l.drop k).length=l.length:=by
 rw[Oo,Ow,OU,O8]
 omega
theorem Qc {zs:Ob (Int×zR)}{l:Ob NL}{k:Nat}(hk:k < l.length)(h:xi zs l[k]=l[k]):(l.take (k+1)).map (xi zs)++l.drop (k+1)=(l.take k).map (xi zs)++l.drop k:=by
 have a:k < ((l.take k).map (xi zs)++l.drop k).length:=by rw[Jk];exact hk
 rw[VU hk,h]
 have b:=Vj (zs:=zs) hk a
 rw[←b,List.set_getElem_self]
theorem VV {flags:Ob yx→yx}{zs:Ob (Int×zR)}{l:Ob NL}{k:Nat}(hk:k < l.length):xU flags zs 0 (l.take (k+1))=xU flags zs 0 (l.take k)++xU flags zs k [l[k]]:=by
 rw[Oh hk,lM,OU,show 0+min k l.length=k by omega]
theorem sH {W:Oc}{X:Nat}{t0 t1 t2 t3 t4:yx}(h:NG W X 9 #[Oa t0,Oa t1,Oa t2,Oa t3,Oa t4]):NN W [] 1 (RO (some (Y X 0)) 5 5) 5 ([t0,t1,t2,t3,t4].map encStr):=
 ⟨rfl,.inr ⟨(Y X 0),5,rfl,Oq _,yV,fun _=>⟨rfl,h.lt,zv,fun j hj=>by
  show W.cell? (Y X (0+j))=_
  rw[Nat.zero_add,h.cell j]
  match j,hj with
  |0,_=>rfl
  |1,_=>rfl
  |2,_=>rfl
  |3,_=>rfl
  |4,_=>rfl⟩⟩⟩
end
section
open Go.Shelf Go.RowKit Go.Lib
attribute [local go_sem ↓] Go.wp_at_zero Go.wp_at_succ
theorem Try.infoIntV:(prog.info? 3).map (fun i=>(i.zero,i.size,i.bytes))=some (some (I 0),1,8):=zQ
structure wS (w wr:Oc)(f:NL→Int)(l:Ob NL)(k:Nat)(o:Oe):Prop where
 below:Od w w wr
 o:∃h:OC Nat,Sl wr 3 1 o h k (((l.take k).map f).map yJ)∧∀b,h=some b→w.heap.size≤b
theorem fI (w:Oc)(gv:Nat)(qv:xa)(v:yI)(h:yN w gv qv v)(n:Nat)(hln:v.l.length=n)(hn:n≤1099511627776) :
  C 10 #[Y gv 0] w fun e w'=>∃(A:OC Addr) (c:Nat) (hh:OC Nat),e=RR (RO A n c)∧Sl w' 3 1 (RO A n c) hh n ((v.l.map (·.uid)).map yJ)∧(∀b,hh=some b→w.heap.size≤b)∧Od w w w':=by
 obtain⟨i0,hi,t,u,x⟩:=info_parts Try.infoIntV
 obtain⟨G,K,d,_,_⟩:=h.msgs.form
 rw[hln] at d
 have J:w.cell? (Y gv 1)=some (RO G n K):=by
  rw[h.blk.cell 1,←d]
  rfl
 have f:Z (wS w w (·.uid) v.l 0 (RO none 0 0)):=V ⟨Ok _ _,none,fV,fun b hb=>by cases hb⟩
 have H:=V h
 have j:=V d
 have qg:=V hln
 clear h d hln
 go_enter func10,ntmps10
 go_wp2
 go_loopw [3,13] (fun o i wr=>∃k:Nat,k≤n∧i=I k∧Z (wS w wr (·.uid) v.l k o)) (fun _ i _=>n - (intOf i).toNat)
 case atStart=>exact⟨0,OE _,rfl,f⟩
 case round=>
  clear f J
  obtain⟨k,X,rfl,HU⟩:=hrel
  by_cases r:k < n
  ·have iw:(k:Int) < (n:Int):=O
   have N:(0:Int)≤(k:Int):=O
   have P:Ov.wrap ((k:Int)+1)=(k:Int)+1:=Og _ O
   have y:=H.o.later HU.o.below
   obtain⟨S,om,D,q,hi2,m,M,s,Fp,T,U,W⟩:=y.msg qg.o j.o k r
   subst m
   have a:((v.l.take (k+1)).map (·.uid)).map yJ=((v.l.take k).map (·.uid)).map yJ++[yJ D.p.uid]:=by
    exact IH
   obtain⟨⟨E,B,mt⟩,F⟩:=D
   obtain⟨jy,h0,gq,ig⟩:=HU.o
   obtain⟨A0,c0,rfl,_,_⟩:=gq.form
   have ja:=V (gq.alloc (.cells #[I E,I B,Y F 0] 89))
   have dz:=V (zj jy (zt wr (.cells #[I E,I B,Y F 0] 89)))
   have jm:=V ig
   have Ca:=V a
   clear y s Fp a jy gq ig q hi2
   go_wp2_with (first
    |(at_builtin;refine xI rfl _ _ 35 rfl underlying35 hi t u x rfl zD ja.o rfl (wr.heap.size+1) zv 1 1 rfl rfl ?_ ?_ ?_ ?_)
    |fail)
   ·simp[Value.oneCell']
   ·unfold maxLen
    omega
   ·omega
   ·intro Q L R jd o8 lu
    have HN:Z (wS w R (·.uid) v.l (k+1) Q):=V (by
     have z:=dz.o.size
     refine⟨dz.o.trans (o8.below z fun i hi=>jm.o i vq),L,fW,fun b hb=>?_⟩
     rcases lu with h3|⟨g,h3,h4⟩
     ·exact jm.o b (h3 ▸ hb)
     ·rw[h3] at hb
      injection hb with hb
      rw[O3] at z
      omega)
    exact fL
  ·exact Mk
theorem ids_any (w:Oc)(gv:Nat)(qv:xa)(v:yI)(h:yN w gv qv v)(n:Nat)(hln:v.l.length=n)(hn:n≤1099511627776) :
  C 22 #[Y gv 0] w fun e w'=>∃(A:OC Addr) (c:Nat) (hh:OC Nat),e=RR (RO A n c)∧Sl w' 3 1 (RO A n c) hh n ((v.l.map (·.id)).map yJ)∧(∀b,hh=some b→w.heap.size≤b)∧Od w w w':=by
 obtain⟨i0,hi,t,u,x⟩:=info_parts Try.infoIntV
 obtain⟨G,K,d,_,_⟩:=h.msgs.form
 rw[hln] at d
 have J:w.cell? (Y gv 1)=some (RO G n K):=by
  rw[h.blk.cell 1,←d]
  rfl
 have f:Z (wS w w (·.id) v.l 0 (RO none 0 0)):=V ⟨Ok _ _,none,fV,fun b hb=>by cases hb⟩
 have H:=V h
 have j:=V d
 have qg:=V hln
 clear h d hln
 go_enter func22,ntmps22
 go_wp2
 go_loopw [3,13] (fun o i wr=>∃k:Nat,k≤n∧i=I k∧Z (wS w wr (·.id) v.l k o)) (fun _ i _=>n - (intOf i).toNat)
 case atStart=>exact⟨0,OE _,rfl,f⟩
 case round=>
  clear f J
  obtain⟨k,X,rfl,HU⟩:=hrel
  by_cases r:k < n
  ·have iw:(k:Int) < (n:Int):=O
   have N:(0:Int)≤(k:Int):=O
   have P:Ov.wrap ((k:Int)+1)=(k:Int)+1:=Og _ O
   have y:=H.o.later HU.o.below
   obtain⟨S,om,D,q,hi2,m,M,s,Fp,T,U,W⟩:=y.msg qg.o j.o k r
   subst m
   have a:((v.l.take (k+1)).map (·.id)).map yJ=((v.l.take k).map (·.id)).map yJ++[yJ D.p.id]:=by
    exact IH
   obtain⟨⟨E,B,mt⟩,F⟩:=D
   obtain⟨jy,h0,gq,ig⟩:=HU.o
   obtain⟨A0,c0,rfl,_,_⟩:=gq.form
   have ja:=V (gq.alloc (.cells #[I E,I B,Y F 0] 89))
   have dz:=V (zj jy (zt wr (.cells #[I E,I B,Y F 0] 89)))
   have jm:=V ig
   have Ca:=V a
   clear y s Fp a jy gq ig q hi2
   go_wp2_with (first
    |(at_builtin;refine xI rfl _ _ 35 rfl underlying35 hi t u x rfl zD ja.o rfl (wr.heap.size+1) zv 1 1 rfl rfl ?_ ?_ ?_ ?_)
    |fail)
   ·simp[Value.oneCell']
   ·unfold maxLen
    omega
   ·omega
   ·intro Q L R jd o8 lu
    have HN:Z (wS w R (·.id) v.l (k+1) Q):=V (by
     have z:=dz.o.size
     refine⟨dz.o.trans (o8.below z fun i hi=>jm.o i vq),L,fW,fun b hb=>?_⟩
     rcases lu with h3|⟨g,h3,h4⟩
     ·exact jm.o b (h3 ▸ hb)
     ·rw[h3] at hb
      injection hb with hb
      rw[O3] at z
      omega)
    exact fL
  ·exact Mk
theorem Kv (w:Oc)(gv:Nat)(qv:xa)(v:yI)(h:yN w gv qv v) :
  C 24 #[Y gv 0] w fun e w'=>e=RR (I v.box)∧w=w':=by
 have a:w.cell? (Y gv 0)=some (I v.box):=h.blk.cell 0
 go_enter func24,ntmps24
 go_wp2
 go_ret
 exact⟨rfl,rfl⟩
theorem cQ {α:Type}(l:Ob α)(i:Nat)(f:α→α)(h:i < l.length):l.modify i f=l.set i (f l[i]):=by
 apply List.ext_getElem
 ·simp
 ·intro j a b
  rw[List.getElem_modify,List.getElem_set]
  split
  ·rename_i e
   subst e
   rfl
  ·rfl
theorem DT {zs:Ob (Int×zR)}{m:NL}{k:Nat}{z:Int×zR}(h:zs[k]?=some z):X4 (zs.take (k+1)) m=if N7 m z then {X4 (zs.take k) m with told:=z.2.mod} else X4 (zs.take k) m:=by
 obtain⟨b,a⟩:=OX.1 h
 unfold X4
 rw[Oh b,List.foldl_append,a]
 rfl
theorem DR (m:NL):∀(ys:Ob (Int×zR)) (t:NL),(ys.foldl (fun(s:NL) z=>if N7 m z then {s with told:=z.2.mod} else s) t).uid=t.uid∧(ys.foldl (fun(s:NL) z=>if N7 m z then {s with told:=z.2.mod} else s) t).id=t.id
 |[],_=>⟨rfl,rfl⟩
 |y :: r,t=>by
  have h:=DR m r (if N7 m y then {t with told:=y.2.mod} else t)
  rw[Pm]
  refine⟨h.1.trans ?_,h.2.trans ?_⟩ <;> (split <;> rfl)
structure NS (w wr:Oc)(gv:Nat)(qv q:xa)(v:yI)(i:Nat)(m:NL)(tt M0:Nat)(nv:Oe)(l:Ob NQ):Prop where
 turned:xc w wr gv qv ⟨v.box,v.l.set i m,v.had⟩ q
 there:uY wr nv l
 copy:NG wr M0 89 #[I m.uid,I m.id,Y tt 0]
 ptr:∃hi:i < q.ms.length,q.ms[i].t=tt
 new:w.heap.size≤M0
theorem NS.later {w wr W:Oc}{gv:Nat}{qv q:xa}{v:yI}{i:Nat}{m:NL}{tt M0:Nat}{nv:Oe}{l:Ob NQ}(h:NS w wr gv qv q v i m tt M0 nv l)(hb:Od wr wr W):NS w W gv qv q v i m tt M0 nv l:=
 ⟨h.turned.then hb,h.there.later hb,h.copy.below hb h.copy.lt,h.ptr,h.new⟩
theorem NS.set {w wr:Oc}{gv:Nat}{qv q:xa}{v:yI}{i:Nat}{m:NL}{tt M0:Nat}{nv:Oe}{l:Ob NQ}(h:NS w wr gv qv q v i m tt M0 nv l)(hi:i < v.l.length)(u:Int):∃q',NS w (wr.setCell (Y tt 0) (I u)) gv qv q' v i {m with told:=u} tt M0 nv l:=by
 obtain⟨a,d⟩:=h.ptr
 have hi2:i < (⟨v.box,v.l.set i m,v.had⟩:yI).l.length:=by show i < (v.l.set i m).length;rw[Pd];exact hi
 have c:=h.turned.at_.Q5 i a hi2 u
 rw[d] at c
 have e:(v.l.set i m).set i {(v.l.set i m)[i]'hi2 with told:=u}=v.l.set i {m with told:=u}:=by
  rw[Ph,List.set_set]
 have j:=h.turned.trans c
 have n:uB (fun t=>¬NV t) wr (wr.setCell (Y tt 0) (I u)):=uB.dA c.N4 (fun i hi=>by
  obtain⟨t,g,b,k⟩:=h.turned.at_.typed hi
  exact⟨t,g,b,fun h=>h k⟩)
 have b:=h.turned.at_.told q.ms[i] (Oj a)
 rw[d] at b
 refine⟨⟨q.hl,q.vl,q.ms.set i (q.ms[i].set u)⟩,?_,h.there.Xo n ZY ZY ZY,h.copy.far (p:=⟨tt,0,none⟩) (h.copy.ne b zD) _,⟨by simpa using a,?_⟩,h.new⟩
 ·have f:xc w (wr.setCell (Y tt 0) (I u)) gv qv ⟨v.box,(v.l.set i m).set i {(v.l.set i m)[i]'hi2 with told:=u},v.had⟩ ⟨q.hl,q.vl,q.ms.set i (q.ms[i].set u)⟩:=j
  rw[e] at f
  exact f
 ·simp[bV.set,d]
theorem Lv (w:Oc)(g:Nat)(q:zW)(x:Acc)(gv:Nat)(qv:xa)(v:yI)(zs:Ob (Int×zR))(hx:zH w g q x)(hsm:Qt x)(hv:yN w gv qv v)(hvl:v.l.length≤1099511627776)(hp:zs.Perm (vW x.zC v.box))(hr:(zs.map (·.1)).Pairwise (· < ·))(hz:zs.length≤1099511627776)(i:Nat)(hi:i < v.l.length) :
  C 19 #[Y gv 0,Y g 0,I ((i:Int)+1)] w fun e w'=>e=RR (.tuple #[])∧∃qv',xc w w' gv qv (Jj zs v ((i:Int)+1)) qv':=by
 have a6:Jj zs v ((i:Int)+1)=⟨v.box,v.l.set i (X4 zs v.l[i]),v.had⟩:=by
  unfold Jj
  rw[Om O,show ((i:Int)+1 - 1).toNat=i by omega,cQ _ _ _ hi]
 rw[a6]
 obtain⟨nc,a9⟩:∃nc,v.l.length=nc:=⟨_,rfl⟩
 obtain⟨Am,cm,D,_,_⟩:=hv.msgs.form
 rw[a9] at D
 obtain⟨bm,om,mm,a2,aq,ap,a',ac,a8,d0,d1,d2⟩:=hv.msg a9 D i O
 subst ap
 rw[a8]
 have X:w.cell? (Y gv 1)=some (RO (some (Y bm om)) nc cm):=by
  rw[hv.blk.cell 1,←D]
  rfl
 obtain⟨⟨r,p,E⟩,K⟩:=mm
 have ae:=fun W (hb:Od w w W)=>VX W g q x (hx.later hb) hsm v.box zs hp hr hz
 have a1:=zt w (.cells #[I r,I p,Y K 0] 89)
 have y0:(w.alloc (.cells #[I r,I p,Y K 0] 89)).cell? (Y gv 0)=some (I v.box):=(hv.later a1).blk.cell 0
 have a7:v.l.set i (⟨r,p,E⟩:NL)=v.l:=by
  have h1:v.l[i]=(⟨r,p,E⟩:NL):=a8
  rw[←h1,List.set_getElem_self]
 have aa:∀W l nv,Od (w.alloc (.cells #[I r,I p,Y K 0] 89)).heap.size (w.alloc (.cells #[I r,I p,Y K 0] 89)) W→uY W nv l→NS w W gv qv qv v i (X4 (zs.take 0) ⟨r,p,E⟩) K w.heap.size nv l:=fun W l nv hb ht=>by
  refine⟨?_,ht,(NG.new w _ _).below hb zv,⟨a2,by rw[ac]⟩,Oq _⟩
  show xc w W gv qv ⟨v.box,v.l.set i (⟨r,p,E⟩:NL),v.had⟩ qv
  rw[a7]
  exact(xc.refl hv).then (zj a1 hb)
 have q1:(0:Int)≤(i:Int)+1 - 1:=O
 have q2:¬((i:Int)+1 < 1):=O
 have q3:¬((nc:Int) < (i:Int)+1):=O
 have q4:((i:Int)+1 - 1).toNat=i:=O
 have q5:Ov.wrap ((i:Int)+1 - 1)=(i:Int):=by rw[Og _ O];omega
 have q6:i < nc:=O
 have q7:i≤1099511627776:=O
 have q8:(i:Int)≤1099511627776:=O
 have q9:(0:Int)≤(i:Int):=O
 have ao:=V ae
 have al:=V a1
 have am:=V aa
 have HI:=V hi
 have HZ:=V hz
 clear ae a1 aa a7 ac a8 D a9 a6 hx hv hp hr hi a2 aq hz
 go_enter func19,ntmps19
 go_wp2_with (first
  |(go_at_call 33;refine(ao.o _ al.o).mono ?_;rintro e w2 ⟨nv,l,rfl,k1,k2,k3⟩;obtain⟨A9,c9,rfl,_,_⟩:=k2.rd.form;have K1:=V k1;have T:=V (am.o _ _ _ k3 k2);clear k1 k2 k3)
  |fail)
 obtain⟨U,a0⟩:∃U,w.heap.size=U:=⟨_,rfl⟩
 rw[a0] at T
 try rw[a0]
 obtain⟨J,L⟩:∃J,l.length=J:=⟨_,rfl⟩
 have qp:=V L
 rw[L] at T
 try rw[L]
 have au:J≤1099511627776:=by rw[←L,←Ow (f:=NQ.z),K1.o];exact HZ.o
 have av:=V a0
 clear a0 L X y0 d0 d1 d2
 go_loopw [39] (fun j wr=>∃(k:Nat) (q1:xa),k≤J∧j=I k∧Z (NS w wr gv qv q1 v i (X4 (zs.take k) ⟨r,p,E⟩) K U (RO A9 J c9) l)) (fun j _=>J - (intOf j).toNat)
 case atStart=>exact⟨0,qv,OE _,rfl,T⟩
 case round=>
  clear T
  obtain⟨k,q1,hk,rfl,HU⟩:=hrel
  by_cases af:k < J
  ·have ab:(k:Int) < (J:Int):=O
   have b0:(0:Int)≤(k:Int):=O
   have b1:Ov.wrap ((k:Int)+1)=(k:Int)+1:=Og _ O
   have jb:k < l.length:=JB
   obtain⟨z,E9⟩:∃z,l[k]=z:=⟨_,rfl⟩
   have a5:zs[k]?=some z.z:=by
    rw[←K1.o,O5,Ot jb,E9]
    rfl
   obtain⟨b,d,aw,hv,_,_,az,_,aj⟩:=HU.o.there.rd.at_ O
   rw[qp.o] at hv aj
   injection hv with hv3 _ hv4
   subst hv3 hv4
   have a:∀j,j < 9→wr.cell? (Y b (d+k * 9+j))=(vI z)[j]?:=fun j hj=>by
    exact pd
   have c:=DT (m:=⟨r,p,E⟩) a5
   obtain⟨u1,u2⟩:=DR ⟨r,p,E⟩ (zs.take k) ⟨r,p,E⟩
   obtain⟨mk,H⟩:∃mk,X4 (zs.take k) ⟨r,p,E⟩=mk:=⟨_,rfl⟩
   have v1:mk.uid=r:=by rw[←H];exact u1
   have v2:mk.id=p:=by rw[←H];exact u2
   rw[H] at HU c
   have s:=HU.o.copy
   rw[v1,v2] at s
   obtain⟨G,⟨F,y,A,t,zk,ag,h,u⟩,P,R,Q,S⟩:=z
   simp only[vI,xV,NQ.m,Qh] at a
   obtain⟨M,a3⟩:∃M,zk.length=M:=⟨_,rfl⟩
   obtain⟨N,a4⟩:∃N,ag.length=N:=⟨_,rfl⟩
   rw[a3,a4] at a
   have d0:wr.cell? (Y b (d+k * 9))=some (I G):=a 0 O
   have d1:wr.cell? (Y b (d+k * 9+1))=some (I F):=a 1 O
   have d2:wr.cell? (Y b (d+k * 9+2))=some (I y):=a 2 O
   have d3:wr.cell? (Y b (d+k * 9+3))=some (RP ⟨A.toArray⟩):=a 3 O
   have d4:wr.cell? (Y b (d+k * 9+4))=some (I t):=a 4 O
   have d5:wr.cell? (Y b (d+k * 9+5))=some (RO P M R):=a 5 O
   have d6:wr.cell? (Y b (d+k * 9+6))=some (RO Q N S):=a 6 O
   have d7:wr.cell? (Y b (d+k * 9+7))=some (I h):=a 7 O
   have d8:wr.cell? (Y b (d+k * 9+8))=some (I u):=a 8 O
   have B:N7 ⟨r,p,E⟩ (NQ.z ⟨G,⟨F,y,A,t,zk,ag,h,u⟩,P,R,Q,S⟩)=(decide (G=r) && decide (F=p)):=rfl
   rw[B] at c
   have HC:=V (s.alloc (.cells #[I G,I F,I y,Oa A,I t,RO P M R,RO Q N S,I h,I u] 85))
   have m0:(wr.alloc (.cells #[I G,I F,I y,Oa A,I t,RO P M R,RO Q N S,I h,I u] 85)).cell? (Y U 0)=some (I r):=HC.o.cell 0
   have m1:(wr.alloc (.cells #[I G,I F,I y,Oa A,I t,RO P M R,RO Q N S,I h,I u] 85)).cell? (Y U 1)=some (I p):=HC.o.cell 1
   have m2:(wr.alloc (.cells #[I G,I F,I y,Oa A,I t,RO P M R,RO Q N S,I h,I u] 85)).cell? (Y U 2)=some (RQ (some (Y K 0))):=HC.o.cell 2
   have n:=HU.o.later (zt wr (.cells #[I G,I F,I y,Oa A,I t,RO P M R,RO Q N S,I h,I u] 85))
   by_cases X:G=r
   ·have e1:(G==r)=true:=by simpa using X
    by_cases c2:F=p
    ·have e2:(F==p)=true:=by simpa using c2
     have ad:C 48 #[Y K 0,I h] (wr.alloc (.cells #[I G,I F,I y,Oa A,I t,RO P M R,RO Q N S,I h,I u] 85)) fun e w'=>e=RR (.tuple #[])∧∃q4,Z (NS w w' gv qv q4 v i (X4 (zs.take (k+1)) ⟨r,p,E⟩) K U (RO (some (Y b d)) J c9) l):=by
      obtain⟨a2,ht⟩:=n.ptr
      have hB:=n.turned.at_.told _ (Oj a2)
      rw[ht] at hB
      refine(Z6 K 0 _ h _ (hB.cell 0) (hB.frozen 0)).mono ?_
      rintro e w' ⟨rfl,hw⟩
      rw[hw]
      obtain⟨q4,h4⟩:=n.set HI.o h
      refine⟨rfl,q4,V ?_⟩
      rw[c,OS X,OS c2,Bool.and_self,OG rfl]
      exact h4
     have an:=V ad
     clear aj a E9 a3 a4 c a5 s B n H v1 v2 u1 u2 X c2 ad
     go_wp2_with (first
      |(go_at_call 48;refine an.o.mono ?_;rintro e w7 ⟨rfl,q4,HN⟩)
      |fail)
     refine⟨?_,zV⟩
     first|exact⟨k+1,q4,O,zE,HN⟩|((repeat apply OA);exact⟨⟨k+1,q4,O,zE,HN⟩,rfl⟩)
    ·have e2:(F==p)=false:=by simpa using c2
     have HN:Z (NS w (wr.alloc (.cells #[I G,I F,I y,Oa A,I t,RO P M R,RO Q N S,I h,I u] 85)) gv qv q1 v i (X4 (zs.take (k+1)) ⟨r,p,E⟩) K U (RO (some (Y b d)) J c9) l):=V (by
      rw[c,OD c2,Bool.and_false,Om zD]
      exact n)
     clear aj a E9 a3 a4 c a5 s B n H v1 v2 u1 u2 X c2
     exact EX
   ·have e1:(G==r)=false:=by simpa using X
    have HN:Z (NS w (wr.alloc (.cells #[I G,I F,I y,Oa A,I t,RO P M R,RO Q N S,I h,I u] 85)) gv qv q1 v i (X4 (zs.take (k+1)) ⟨r,p,E⟩) K U (RO (some (Y b d)) J c9) l):=V (by
     rw[c,OD X,Bool.false_and,Om zD]
     exact n)
    clear aj a E9 a3 a4 c a5 s B n H v1 v2 u1 u2 X
    exact EX
  ·have ab:¬(k:Int) < (J:Int):=O
   have ar:k=J:=O
   subst ar
   have HF:Z (∃q1,xc w wr gv qv ⟨v.box,v.l.set i (X4 zs ⟨r,p,E⟩),v.had⟩ q1):=V (by
    have h1:=HU.o.turned
    rw[Ou (by rw[←K1.o,Ow,qp.o];exact Oq _)] at h1
    exact⟨_,h1⟩)
   go_wp2_with fail
   first|go_end0|refine bodyPost_ret (results_none rfl _ _ _) rfl ?_
   exact⟨rfl,HF.o⟩
end
end Go.Proofs.YtnofkliaofgiaaaGreatDoor
