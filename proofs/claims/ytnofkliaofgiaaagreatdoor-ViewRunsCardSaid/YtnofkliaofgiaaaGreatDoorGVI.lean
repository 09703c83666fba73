/-
  The walks of the reference's Flag, Flags, and of a message's line. Printed by gen_r22flags.py. The walk of the reference's Update.
-/
import Derived.Test.YtnofkliaofgiaaaGreatDoorGVC
import Derived.Test.YtnofkliaofgiaaaGreatDoorGVD
import Derived.Test.YtnofkliaofgiaaaGreatDoorGD
import Derived.Test.YtnofkliaofgiaaaGreatDoorGVH
import Derived.Test.YtnofkliaofgiaaaGreatDoorGVM
import Derived.Test.YtnofkliaofgiaaaGreatDoorGBO
import Derived.Test.YtnofkliaofgiaaaGreatDoorGVF
import Derived.Deep.QuietTactic
import Derived.BigQuiet
import Derived.Deep.RegionHeld3
set_option maxRecDepth 100000
set_option maxHeartbeats 8000000
open Go.Proofs.Tryz
open ByteArray renaming mk→PK
open Exists renaming intro→OA
open Go renaming TypeId→Pa,Value→Oe,World→Oc
open Go.ByteArray renaming mk_append_mk→Pj,toList_eq→Pu
open Go.Ending renaming returned→RR
open Go.IntKind renaming i64→Ov
open Go.IntWalk renaming i64_in→Og
open Go.Lib renaming join→Rk
open Go.RowKit renaming Below→Od
open Go.RowKit.Below renaming refl→Ok
open Go.Value renaming slice→RO,string→RP,string→Rn
open Go.Value.slice renaming inj→OM
open Go.World renaming cell?_alloc_past→Pw,frozen?_alloc_past→Pn
open List renaming append_assoc→O4,append_nil→Pr,foldl_cons→Pm,getElem_mem→Oj,length_append→Oo,length_cons→OT,length_eraseIdx_of_lt→Pq,length_map→Ow,length_singleton→Pf,length_take→OU,mem_append→OO,mem_cons→OB,mem_filter→OZ,mem_of_find?_eq_some→O2,take_of_length_le→Ou
open Nat renaming le_refl→Oq,le_trans→Ol,zero_le→OE
open Option renaming mem_toList→Pe
open Option.some renaming inj→O6
open _root_ renaming ByteArray→Oy,List→Ob,Option→OC,UInt8→Oz,decide_eq_false→OD,decide_eq_true→OS,if_neg→Om,if_pos→OG
namespace Go.Proofs.YtnofkliaofgiaaaGreatDoor
attribute [local go_sem ↓] Go.wp_at_zero Go.wp_at_succ
section
open Go.RowKit Go.Sort Go.Lib
def NF (k:Nat):Ob Oz:=[[92,65,110,115,119,101,114,101,100],[92,70,108,97,103,103,101,100],[92,68,101,108,101,116,101,100],[92,83,101,101,110],[92,68,114,97,102,116]].getD k []
def Kl (k:Nat):Ob Oz:=[[36,97,110,115,119,101,114,101,100],[36,102,108,97,103,103,101,100],[36,100,101,108,101,116,101,100],[36,115,101,101,110],[36,100,114,97,102,116]].getD k []
theorem sys3:∀k,k < 5→Xx ⟨(Kl k).toArray⟩=⟨(NF k).toArray⟩:=by decide+kernel
theorem wJ (i:Nat)(hi:i < 5)(w:Oc):C 213 #[I i] w fun e w'=>
  e=RR (.tuple #[Oa (NF i),Oa (Kl i)])∧Od w w w':=by
 have a:∀(o o':Obj) n,Od w w (((w.alloc o).alloc o').drewN n):=fun o o' n=>zO (((Ok _ w).alloc (Oq _) o).alloc zv o') n
 have b:=V a
 clear a
 have c:i=0∨i=1∨i=2∨i=3∨i=4:=O
 clear hi
 rcases c with rfl|rfl|rfl|rfl|rfl
 all_goals
  go_enter func213,ntmps213
  go_wp2_with fail
  go_quiet (fail)
  go_wp2_with fail
  go_ret2
  exact⟨rfl,b.o _ _ _⟩
theorem mM (s:Oy)(h:∀j,j < 5→s≠⟨(Kl j).toArray⟩):Xx s=s:=by
 unfold Xx
 rw[Om (show ¬s=⟨#[36,97,110,115,119,101,114,101,100]⟩ from h 0 zD),Om (show ¬s=⟨#[36,102,108,97,103,103,101,100]⟩ from h 1 zD),Om (show ¬s=⟨#[36,100,101,108,101,116,101,100]⟩ from h 2 zD),Om (show ¬s=⟨#[36,115,101,101,110]⟩ from h 3 zD),Om (show ¬s=⟨#[36,100,114,97,102,116]⟩ from h 4 zD)]
theorem nP (s:Oy)(w:Oc) :
  C 180 #[.string s] w fun e w'=>e=RR (RP (Xx s))∧Od w w w':=by
 obtain⟨q,x⟩:∃q,Xx s=q:=⟨_,rfl⟩
 rw[x]
 have n:=V x
 clear x
 go_enter func180,ntmps180
 go_wp2
 go_loopw [3] (fun i wr=>∃k:Nat,k≤5∧i=I k∧Z (∀j,j < k→s≠⟨(Kl j).toArray⟩)∧Z (Od w w wr)) (fun i _=>5 - (intOf i).toNat)
 case atStart=>exact⟨0,O,rfl,V (fun j hj=>by omega),V (Ok _ _)⟩
 case round=>
  obtain⟨k,A,rfl,y,m⟩:=hrel
  by_cases h:k < 5
  ·have a:=wJ k h wr
   have r:=sys3 k h
   by_cases b:s=⟨(Kl k).toArray⟩
   ·have f:q=⟨(NF k).toArray⟩:=by rw[←n.o,b,r]
    subst f
    have t:(Kl k==s.toList)=true:=by rw[b,Pu];simp
    generalize l:NF k=sf at a
    have p:=V l
    generalize Kl k=sk at a t
    clear b r n l
    go_wp2_with (first
     |(go_at_call 213;refine a.mono ?_;rintro e z ⟨rfl,c⟩;have d:=V (Uj m.o c);clear c a)
     |fail)
    go_ret
    exact⟨by rw[p.o];rfl,d.o⟩
   ·have t:(Kl k==s.toList)=false:=by
     rw[beq_eq_false_iff_ne,Pu]
     exact fun e=>b (Z8 s _ e.symm)
    have g:Z (∀j,j < k+1→s≠⟨(Kl j).toArray⟩):=V fun j hj=>by
     by_cases u:j=k
     ·subst u
      exact b
     ·exact y.o j O
    clear b r
    generalize NF k=sf at a
    generalize Kl k=sk at a t
    go_wp2_with (first
     |(go_at_call 213;refine a.mono ?_;rintro e z ⟨rfl,c⟩;have d:=V (Uj m.o c);clear c a)
     |fail)
    refine⟨?_,zV⟩
    first|exact⟨k+1,O,zE,g,d⟩|((repeat apply OA);exact⟨⟨k+1,O,zE,g,d⟩,rfl⟩)
  ·have v:k=5:=O
   subst v
   have f:q=s:=by rw[←n.o,mM s y.o]
   subst f
   go_wp2
   go_ret
   exact⟨rfl,m.o⟩
theorem kI (w:Oc)(v:Oe)(n:Nat)(l:yF)(hn:l.length=n)(hnb:n≤100)(hr:NN w [] 1 v n (l.map encStr))(h3:∀s∈l,s.length≤300) :
  C 139 #[v] w fun e w'=>e=RR (RP ⟨(40 :: J l n++[41]).toArray⟩)∧Od w w w':=by
 obtain⟨A,P,rfl,_,_⟩:=hr.form
 have N:=V hr
 have HN:=V hn
 have H:=V h3
 clear hr hn h3
 go_enter func139,ntmps139
 go_wp2
 go_loopw [3,4] (fun s i wr=>∃(k:Nat) (t:Ob Oz),k≤n∧i=I k∧s=RP ⟨t.toArray⟩∧Z (t=40 :: J l k)∧Z (Od w w wr)) (fun _ i _=>n - (intOf i).toNat)
 case atStart=>exact⟨0,[40],OE _,rfl,rfl,V (by rw[gW]),V (Ok _ _)⟩
 case round=>
  obtain⟨k,t,R,rfl,rfl,q,z⟩:=hrel
  have S:t.length≤40000:=by
   rw[q.o,OT]
   have:=Ue l H.o k (by rw[HN.o];exact R)
   omega
  by_cases af:k < n
  ·have h:k < l.length:=Zg
   obtain⟨b,y,K,G,E,_,j⟩:=N.o.str k h
   injection G with hva1 _ hva3
   subst hva1
   subst hva3
   have L:wr.cell? (Y b (y+k))=some (encStr l[k]):=(z.o.cell (p:=⟨b,y+k,none⟩) E).trans j
   have g:=J0 l[k] (H.o _ (Oj h))
   have f:=nP ⟨l[k].toArray⟩ wr
   rw[qG] at f
   by_cases m:k=0
   ·have u:t++ZW l[k]=40 :: J l (k+1):=by
     subst m
     rw[q.o,gW,lX l h]
     rfl
    have d:=V u
    have Q:decide (0 < k)=false:=OD O
    generalize l[k]=x at L f g d
    generalize ZW x=fb at f g d
    have M:¬9223372036854775807 < t.length+fb.length:=O
    clear u m j
    go_wp2_with (first
     |(go_at_call 180;refine f.mono ?_;rintro e T ⟨rfl,c⟩;have a:=V (Uj z.o c);clear c f)
     |fail)
    refine⟨?_,zV⟩
    first|exact⟨k+1,t++fb,O,zE,congrArg Rn (Pj t fb),d,a⟩|((repeat apply OA);exact⟨⟨k+1,t++fb,O,zE,congrArg Rn (Pj t fb),d,a⟩,rfl⟩)
   ·have u:t++[32]++ZW l[k]=40 :: J l (k+1):=by
     rw[q.o,wU l k O h]
     simp
    have d:=V u
    have Q:decide (0 < k)=true:=OS O
    generalize l[k]=x at L f g d
    generalize ZW x=fb at f g d
    have M:¬9223372036854775807 < t.length+1:=O
    have U:¬9223372036854775807 < t.length+1+fb.length:=O
    clear u m j
    go_wp2_with (first
     |(go_at_call 180;refine f.mono ?_;rintro e T ⟨rfl,c⟩;have a:=V (Uj z.o c);clear c f)
     |fail)
    have r:(⟨t.toArray⟩:Oy)++⟨#[32]⟩++⟨fb.toArray⟩=⟨(t++[32]++fb).toArray⟩:=by
     have B:=Pj t [32]
     have D:=Pj (t++[32]) fb
     rw[←D,←B]
    refine⟨?_,zV⟩
    first|exact⟨k+1,t++[32]++fb,O,zE,congrArg Rn r,d,a⟩|((repeat apply OA);exact⟨⟨k+1,t++[32]++fb,O,zE,congrArg Rn r,d,a⟩,rfl⟩)
  ·have F:k=n:=O
   subst F
   have M:¬9223372036854775807 < t.length+1:=O
   go_wp2_with fail
   go_ret
   refine⟨Jc ?_,z.o⟩
   have B:=Pj t [41]
   have D:40 :: (J l k++[41])=t++[41]:=by rw[q.o];rfl
   first|rw[D,←B]|(rw[←q.o,←B])
   try rfl
theorem J_bound {l:yF}(h1:l.length≤100)(h3:∀s∈l,s.length≤300):(yq l).length≤30102:=by
 have h:=Ue l h3 l.length (Oq _)
 exact Iz
theorem C5 (w:Oc)(i:Nat)(uid:Int)(m:xd){Ak Av:OC Addr}{nk ck nv cv:Nat}(hkv:m.kv=RO Ak nk ck)(hmv:m.mv=RO Av nv cv)(hr:NN w [] 1 m.kv m.p.keys.length (m.p.keys.map encStr))(h100:m.p.keys.length≤100)(h3:∀s∈m.p.keys,s.length≤300)(hi:i≤1099511627776)(hu:uid≤9223372036854775807)(hm:m.p.mod≤9223372036854775807) :
  C 68 #[I ((i:Int)+1),.agg (xV m).toArray,I uid] w fun e w'=>e=RR (RP ⟨(XK yq i uid m.p).toArray⟩)∧Od w w w':=by
 have L:=NG.new w 83 (xV m).toArray
 have q:=zt w (.cells (xV m).toArray 83)
 have J:=fun W=>Zr ((i:Int)+1) O W
 have K:=fun W=>Zr uid hu W
 have E:=fun W=>Zr m.p.mod hm W
 have x:=fun W (f:Od w w W)=>kI W m.kv m.p.keys.length m.p.keys rfl h100 (hr.below f) h3
 have P:=Yi ((i:Int)+1) O
 have Q:=Yi uid hu
 have R:=Yi m.p.mod hm
 have S:=J_bound h100 h3
 have l:XK yq i uid m.p=[42,32]++XD ((i:Int)+1)++[32,70,69,84,67,72,32,40,85,73,68,32]++XD uid++[32,70,76,65,71,83,32]++yq m.p.keys++[32,77,79,68,83,69,81,32,40]++XD m.p.mod++[41,41,13,10]:=by
  unfold XK VT Vv Vw LS
  simp
 rw[l]
 change ∀W,Od w w W→Calls _ _ _ W fun e w'=>e=RR (RP ⟨(yq m.p.keys).toArray⟩)∧_ at x
 generalize XD ((i:Int)+1)=D1 at J P ⊢
 generalize XD uid=D2 at K Q ⊢
 generalize XD m.p.mod=D3 at E R ⊢
 generalize yq m.p.keys=F at x S ⊢
 obtain⟨⟨N,B,D,z,mk,U,k,A⟩,T,X⟩:=m
 simp only at hkv hmv
 subst hkv hmv
 simp only[xV,Qh] at L q x E ⊢
 have h:∀a b:Ob Oz,PK a.toArray++PK b.toArray=PK (a++b).toArray:=fun a b=>Pj a b
 obtain⟨c,j⟩:∃c:Oc,c=w.alloc (.cells #[I N,I B,Oa D,I z,RO Ak nk ck,RO Av nv cv,I k,I A] 83):=⟨_,rfl⟩
 have g:NG c w.heap.size 83 #[I N,I B,Oa D,I z,RO Ak nk ck,RO Av nv cv,I k,I A]:=by rw[j];exact L
 have y:Od w w c:=by rw[j];exact q
 have d:Z (∀W,Od c c W→W.cell? (Y w.heap.size 4)=some (RO Ak nk ck)∧W.cell? (Y w.heap.size 6)=some (I k)):=V fun W f=>⟨(f.cell g.lt).trans (g.cell 4),(f.cell g.lt).trans (g.cell 6)⟩
 have r:=V y
 have M:Z (Od c c c.drew):=V (zG c)
 have H:=V x
 have G:=V h
 clear h L q g y x hr h100 h3 l
 go_enter func68,ntmps68
 go_upto_region 1 with(fail)
 rw[←j]
 clear j
 have n1:¬9223372036854775807 < 2+D1.length:=O
 have n2:¬9223372036854775807 < 2+D1.length+12:=O
 have n3:¬9223372036854775807 < 2+D1.length+12+D2.length:=O
 have n4:¬9223372036854775807 < 2+D1.length+12+D2.length+7:=O
 have n5:¬9223372036854775807 < 2+D1.length+12+D2.length+7+F.length:=O
 have n6:¬9223372036854775807 < 2+D1.length+12+D2.length+7+F.length+9:=O
 have n7:¬9223372036854775807 < 2+D1.length+12+D2.length+7+F.length+9+D3.length:=O
 have n8:¬9223372036854775807 < 2+D1.length+12+D2.length+7+F.length+9+D3.length+4:=O
 go_region_held3 (fun W=>W.cell? (Y w.heap.size 4)=some (RO Ak nk ck)∧W.cell? (Y w.heap.size 6)=some (I k))
  (first
   |exact d.o _ M.o
   |exact d.o _ t.o
   |exact d.o _ n.o
   |exact d.o _ u.o
   |exact d.o _ v.o
   |go_keep)
  (first
   |(go_at_call 67;(with_reducible refine(J _).mono ?_);rintro e w2 ⟨rfl,f⟩;have t:Z (Od c c w2):=V (zj M.o f);clear f J)
   |(go_at_call 67;(with_reducible refine(K _).mono ?_);rintro e w3 ⟨rfl,f⟩;have n:Z (Od c c w3):=V (zj t.o f);clear f K)
   |(go_at_call 139;refine(H.o _ (zj r.o n.o)).mono ?_;rintro e w4 ⟨rfl,f⟩;have u:Z (Od c c w4):=V (zj n.o f);clear f)
   |(go_at_call 67;(with_reducible refine(E _).mono ?_);rintro e w5 ⟨rfl,f⟩;have v:Z (Od c c w5):=V (zj u.o f);clear f E)
   |fail)
 go_wp2_with fail
 go_ret
 have h:=G.o
 refine⟨?_,zj r.o v.o⟩
 simp only[h]
 rfl
end
section
open Go.Shelf Go.RowKit Go.Lib
section
variable {w w':Oc} {g gr:Nat} {q:zW} {x:Acc} {qr qr':NM} {v v':yI}
theorem XF.typed (h:XF w gr qr v){k:Nat}(hk:k∈qr.own gr):∃t cs,NG w k t cs∧(t=58∨t=126):=by
 rcases OB.1 hk with rfl|h1
 ·exact⟨_,_,h.blk,.inl rfl⟩
 ·have a:qr.h=some k:=xv
  rcases h.sl.2 with⟨h3,_⟩|⟨b,off,cap,cur,h3,_,h4,_⟩
  ·rw[a] at h3
   cases h3
  ·rw[a] at h3
   obtain rfl:=O6 h3
   exact⟨_,_,h4,.inr rfl⟩
theorem zJ.ND (h:zJ w g q x)(hv:XF w gr qr v):∀k∈q.own g,k∉qr.own gr:=by
 intro k hk a
 obtain⟨t,b,hB,hT⟩:=hv.typed a
 obtain⟨c,bq,gm⟩:=h.log
 have eu:∀{e:Pa} {Bj n:Nat} {u:Oe} {o:OC Nat} {xs:Ob Oe},Sl w e Bj u o n xs→o=some k→t=e:=by
  intro e Bj n u o xs hs ho
  rcases hs.2 with⟨h2,_⟩|⟨b,off,cap,cur,h2,_,h3,_⟩
  ·rw[ho] at h2
   cases h2
  ·rw[ho] at h2
   obtain rfl:=O6 h2
   exact(hB.inj h3).1
 exact I0
theorem XF.wide (hv:XF w gr qr v):gZ w (qr.own gr):=fun b hb=>by
 obtain⟨t,cs,hB,hT⟩:=hv.typed hb
 exact⟨t,cs,hB,by rcases hT with rfl|rfl <;> decide,by rcases hT with rfl|rfl <;> decide⟩
theorem zJ.X2 (h:zJ w g q x)(hv:XF w gr qr v)(k:yM w w' gr qr v' qr'):zJ w' g q x:=h.besides hv.wide (h.ND hv) k.N4
theorem XF.jK (h:XF w gr qr v):jK w gr=v.l.length:=by
 obtain⟨A,c,b,_,_⟩:=h.sl.form
 have a:w.cell? (Y gr 1)=some qr.vl:=h.blk.cell 1
 unfold Proofs.YtnofkliaofgiaaaGreatDoor.jK
 rw[a,b]
end
structure RU1 (w wr:Oc)(gr:Nat)(qr q2:NM)(v:yI)(is:NL→Bool)(cur:Ob NL)(i:Nat)(t:yx):Prop where
 tr:yM w wr gr qr {v with l:=cur} q2
 go:Vl is v.l cur i t
 sub:∀m∈cur,m∈v.l
structure RUpIn (w:Oc)(g:Nat)(q:zW)(x:Acc)(gr:Nat)(qr:NM)(v:yI):Prop where
 at_:zJ w g q x
 viv:NW x
 view:XF w gr qr v
 vlen:v.l.length≤16777216
 zlen:(N9 x v.box).length≤4294967296
 N8:∀z∈N9 x v.box,NY z
 muid:∀m∈v.l,1≤m.uid∧m.uid≤2147483647
theorem Try.infoSeenU:(prog.info? 126).map (fun i=>(i.zero,i.size,i.bytes))=some (some (.agg #[I 0,I 0,I 0]),3,24):=zQ
theorem BD (l:Ob NL):∀u∈zU vG l,u.oneCell'=true:=by
 intro u b
 obtain⟨m,_,a⟩:=List.mem_flatMap.1 b
 exact mH m u a
theorem Vl.tlen {is:NL→Bool}{L cur:Ob NL}{i:Nat}{t:yx}(h:Vl is L cur i t)(hL:L.length≤16777216):t.length≤671088640:=by
 have a:=congrArg List.length h.text
 have b:=Yl is L 0 O
 rw[Oo] at a
 omega
theorem J1 (had:Int):∀(zs:Ob (Int×zR)) (v:yI),v.l.length≤(yy had zs v).l.length
 |[],_=>Oq _
 |z :: r,v=>by
  unfold yy
  rw[Pm]
  refine Ol ?_ (J1 had r _)
  split
  ·show v.l.length≤(v.l++[_]).length
   rw[Oo]
   omega
  ·exact Oq _
structure RU3 (w wr:Oc)(gr:Nat)(qr q3:NM)(vk:yI)(hh:OC Nat)(vz:Oe)(zs:Ob (Int×zR)):Prop where
 tr:yM w wr gr qr vk q3
 sl:Sl wr 126 3 vz hh zs.length (zU vG (zs.map Ua))
 ap:∀b,hh=some b→q3.h≠some b∧b≠gr
theorem RU3.later {w wr W:Oc}{gr:Nat}{qr q3:NM}{vk:yI}{hh:OC Nat}{vz:Oe}{zs:Ob (Int×zR)}(h:RU3 w wr gr qr q3 vk hh vz zs)(hb:Od wr wr W):RU3 w W gr qr q3 vk hh vz zs:=
 ⟨h.tr.then hb,h.sl.keep (fun b hb2=>hb.block b (h.sl.lt b hb2)),h.ap⟩
theorem ox (w:Oc)(g:Nat)(q:zW)(x:Acc)(gr:Nat)(qr:NM)(v:yI)(all:Bool)(h:RUpIn w g q x gr qr v) :
  C 18 #[Y gr 0,Y g 0,.bool all] w fun e w'=>e=RR (RP ⟨(yH yq (N9 x v.box) v all).1.toArray⟩)∧∃q',yM w w' gr qr (yH yq (N9 x v.box) v all).2 q':=by
 obtain⟨i0,hi,el,em,en⟩:=info_parts Try.infoSeenU
 obtain⟨f,ec⟩:∃f,(if all then v.l.filter (N6 (N9 x v.box)) else v.l)=f:=⟨_,rfl⟩
 obtain⟨t1,bu⟩:∃t1,(if all then YF (N6 (N9 x v.box)) 0 v.l else [])=t1:=⟨_,rfl⟩
 have H:=V h
 have az:=V ec
 have be:=V bu
 obtain⟨ur,P⟩:∃ur,yH yq (N9 x v.box) v all=ur:=⟨_,rfl⟩
 rw[P]
 have a4:=V P
 have dy:=V h.at_.kv
 clear h ec bu P
 go_enter func18,ntmps18
 go_upto_block 0 with(fail)
 go_cut [7] (fun o wx=>o=RP ⟨t1.toArray⟩∧Z (∃u,yM w wx gr qr {v with l:=f} u))
 case first=>
  go_wp2_with fail
  cases all with
  |false=>
   go_loopw [7,8] (fun o iv wr=>o=RP ⟨#[]⟩∧iv=I 0∧Z (wr=w)) (fun _ _ _=>0)
   case atStart=>exact⟨rfl,rfl,V rfl⟩
   case round=>
    obtain⟨rfl,rfl,HW⟩:=hrel
    obtain⟨A,c,aq,_,_⟩:=H.o.view.sl.form
    have c1:wr.cell? (Y gr 1)=some (RO A v.l.length c):=by rw[HW.o,←aq];exact H.o.view.blk.cell 1
    clear aq
    go_wp2_with fail
    all_goals
     go_meet
     refine⟨by rw[←be.o];rfl,V ⟨qr,?_⟩⟩
     rw[HW.o,←az.o]
     exact yM.of_below H.o.view (Ok _ _)
  |true=>
   go_loopw [7,8] (fun o iv wr=>∃(i:Nat) (t:yx),o=RP ⟨t.toArray⟩∧iv=I i∧Z (∃u E,RU1 w wr gr qr u v (N6 (N9 x v.box)) E i t)) (fun _ iv wr=>jK wr gr - (intOf iv).toNat)
   case atStart=>exact⟨0,[],rfl,rfl,V ⟨qr,v.l,yM.of_below H.o.view (Ok _ _),Vl.start _ _,fun _ h=>h⟩⟩
   case round=>
    obtain⟨i,t,rfl,rfl,HQ⟩:=hrel
    obtain⟨u,E,hu⟩:=HQ.o
    have ej:=hu.go.tlen H.o.vlen
    have dr:=hu.go.small
    have aq:=H.o.vlen
    have ba:=H.o.at_.X2 H.o.view hu.tr
    obtain⟨A,c,ag,_,_⟩:=hu.tr.at_.sl.form
    have c1:wr.cell? (Y gr 1)=some u.vl:=hu.tr.at_.blk.cell 1
    have a1:=hu.tr.at_.jK
    obtain⟨n,hn⟩:∃n,E.length=n:=⟨_,rfl⟩
    simp only[hn] at ag a1 dr
    rw[ag] at c1
    have fo:n≤16777216:=O
    have HU:=V hu
    have HN:=V hn
    have c7:=V a1
    have g5:(0:Int)≤(i:Int):=O
    clear hu hn a1 HQ
    by_cases af:i < n
    ·have a8:(i:Int) < (n:Int):=O
     have g6:Ov.wrap ((i:Int)+1)=(i:Int)+1:=Og _ O
     have dd:i < E.length:=Zg
     have hm:=eY wr g q x ba H.o.viv.fit gr u {v with l:=E} HU.o.tr.at_ i dd (by show E.length≤_;rw[HN.o];omega)
     have de:=isV_eq H.o.viv v.box E[i] (by have:=(H.o.muid _ (HU.o.sub _ (Oj dd))).1;omega)
     simp only at hm
     obtain⟨rf,bt⟩:∃rf,Yz x.zC v.box E[i]=rf:=⟨_,rfl⟩
     rw[bt] at hm de
     have c5:=V dd
     have dx:=V de
     clear ba dr aq de bt
     cases rf with
     |some y=>
      have d0:=V (HU.o.go.keep c5.o dx.o)
      have K:∀W,Od wr wr W→Z (∃u E,RU1 w W gr qr u v (N6 (N9 x v.box)) E (i+1) t)∧Z (Go.Proofs.YtnofkliaofgiaaaGreatDoor.jK W gr=n):=fun W d=>⟨V ⟨u,E,HU.o.tr.then d,d0.o,HU.o.sub⟩,V (by rw[(HU.o.tr.then d).at_.jK];exact HN.o)⟩
      have cb:=V K
      clear K
      go_wp2_with (first
       |(go_at_call 66;refine hm.mono ?_;rintro e M ⟨d,m,b6,cj,rfl⟩;have N:=V d;obtain⟨Ak,nk,ck,Av,nv,cv,b5,b7⟩:=dy.o m b6;clear d hm b6 cj;simp only[xV,Qh,b5,b7];clear b5 b7)
       |fail)
      obtain⟨k1,k2⟩:=cb.o _ (zj N.o (zt M (.cells #[I m.p.id,I m.p.thread,Oa m.p.text,I m.p.at_,RO Ak nk ck,RO Av nv cv,I m.p.mod,I m.p.born] 83)))
      refine⟨?_,by simp[intOf];rw[k2.o,c7.o];omega⟩
      first|exact⟨i+1,t,rfl,zE,k1⟩|((repeat apply OA);exact⟨⟨i+1,t,rfl,zE,k1⟩,rfl⟩)
     |none=>
      have d0:=V (HU.o.go.drop c5.o dx.o)
      have hd:=fun W=>Zr ((i:Int)+1) O W
      have bk:=Yi ((i:Int)+1) O
      obtain⟨D,hD⟩:∃D,XD ((i:Int)+1)=D:=⟨_,rfl⟩
      rw[hD] at hd bk
      have HD:=V hD
      have R:¬9223372036854775807 < t.length+2:=O
      have n2:¬9223372036854775807 < t.length+2+D.length:=O
      have n3:¬9223372036854775807 < t.length+2+D.length+10:=O
      clear hD ej bk
      go_upto_region 8 with(first
       |(go_at_call 66;refine hm.mono ?_;rintro e M ⟨d,rfl⟩;have N:=V d;clear d hm;simp only[xV,oN,Qh])
       |(go_at_call 67;refine(hd _).mono ?_;rintro e U ⟨rfl,d⟩;have cy:=V (zj (zj N.o (zt _ _)) d);clear d hd)
       |fail)
      have G:=HU.o.tr.then cy.o
      have b3:U.cell? (Y gr 1)=some u.vl:=G.at_.blk.cell 1
      have fg:U.frozen? (Y gr 1)=false:=G.at_.blk.frozen 1
      have bi:=G.at_.sl
      have a7:=G.at_.blk.lt
      have db:gr∉u.h.toList:=fun hm=>G.at_.sl.vu G.at_.blk zD gr yT rfl
      simp only[HN.o] at bi
      rw[ag] at b3 bi
      obtain⟨b1,o1,cc,fj,Q,g7,cg,fi,bh⟩:=bi.at_ O
      obtain⟨rfl,_,rfl⟩:=OM Q
      have b2:=V G
      have et:=V bi
      have ft:(i:Int)≤(c:Int):=O
      have fs:(i:Int)+1≤(n:Int):=O
      have fv:(0:Int)≤(i:Int)+1:=O
      have fx:(n:Int)≤(c:Int):=O
      have fp:n≤maxLen:=O
      have cd:Z ((⟨t.toArray⟩:Oy)++⟨#[42,32]⟩++⟨D.toArray⟩++⟨#[32,69,88,80,85,78,71,69,13,10]⟩=⟨(t++VT ((i:Int)+1) xe).toArray⟩):=V (by
       have d6:∀a b:Ob Oz,PK a.toArray++PK b.toArray=PK (a++b).toArray:=fun a b=>Pj a b
       unfold VT xe
       rw[HD.o]
       simp[d6])
      clear G bi bh Q fi fj
      go_region_law (first
       |(refine uV zF (.tmp 51) (.tmp 58) _ zF underlying56 hi el em en rfl O (et.o.heap zF) (BD _) i af yl yl fp O ?_;intro L h2 w9 am B b9;obtain⟨ac,ae,rfl,_,_⟩:=am.form;have ff:w9.cell? (Y gr 1)=some (RO (some (Y b1 o1)) n c):=(B.cell (p:=⟨gr,1,none⟩) a7 db).trans b3;have fh:w9.frozen? (Y gr 1)=false:=(B.frozen (p:=⟨gr,1,none⟩) a7 db).trans fg)
       |fail)
      all_goals
       have a9:=b2.o.at_.fD (w':=w9) (vl:=RO ac (n - 1) ae) (hh:=h2) (l:=E.eraseIdx i) (by
        rw[Pq c5.o,Za vH,HN.o]
        exact am) ⟨B.os,B.tape,B.output,B.size,B.block⟩ b9
       have r:=b2.o.trans a9
       have K2:Z (Go.Proofs.YtnofkliaofgiaaaGreatDoor.jK (w9.setCell (Y gr 1) (RO ac (n - 1) ae)) gr=n - 1):=V (by
        rw[r.at_.jK]
        show (E.eraseIdx i).length=_
        rw[Pq c5.o,HN.o])
       have K1:Z (∃u E,RU1 w (w9.setCell (Y gr 1) (RO ac (n - 1) ae)) gr qr u v (N6 (N9 x v.box)) E i (t++VT ((i:Int)+1) xe)):=V ⟨_,E.eraseIdx i,r,d0.o,fun m hm=>HU.o.sub m (List.mem_of_mem_eraseIdx hm)⟩
       clear a9 am B b9 r
       go_wp2_with fail
       all_goals
        refine⟨?_,by simp[intOf];rw[K2.o,c7.o];omega⟩
        first|exact⟨i,_,congrArg Rn cd.o,zE,K1⟩|((repeat apply OA);exact⟨⟨i,_,congrArg Rn cd.o,zE,K1⟩,rfl⟩)
    ·have a8:¬(i:Int) < (n:Int):=O
     obtain⟨g1,g2⟩:=HU.o.go.done Zg
     have ey:Z (t=t1):=V (by rw[g1,←be.o];rfl)
     have ez:Z (∃u,yM w wr gr qr {v with l:=f} u):=V ⟨u,by rw[←az.o,OG rfl,←g2];exact HU.o.tr⟩
     clear g1 g2 ba ej dr aq
     go_wp2_with fail
     go_meet
     exact⟨by rw[ey.o],ez⟩
 case rest=>
  obtain⟨rfl,e0⟩:=hcut
  obtain⟨wa,rfl⟩:∃wa:Oc,wa=wc:=⟨_,rfl⟩
  have ed:∀m∈f,m∈v.l:=fun m hm=>by
   have J:=az.o
   split at J
   ·rw[←J] at hm
    exact(OZ.1 hm).1
   ·rw[J]
    exact hm
  have a1:f.length≤v.l.length:=by
   rw[←az.o]
   split
   ·exact List.length_filter_le _ _
   ·exact Oq _
  have bu:t1.length≤671088640:=by
   rw[←be.o]
   split
   ·have:=Yl (N6 (N9 x v.box)) v.l 0 (by have:=H.o.vlen;omega)
    have:=H.o.vlen
    omega
   ·simp
  have aq:=H.o.vlen
  obtain⟨R,ee⟩:∃R,f.length=R:=⟨_,rfl⟩
  have fo:R≤16777216:=O
  have c8:=V ed
  have Iq:=V ee
  have d4:=V bu
  clear ed a1 bu aq ee
  go_upto_block 2 with(fail)
  go_cut [7] (fun o wx=>∃s:yx,o=RP ⟨s.toArray⟩∧Z (s=t1++xU yq (N9 x v.box) 0 f)∧Z (∃u,yM w wx gr qr ⟨v.box,f.map (xi (N9 x v.box)),v.had⟩ u))
  case first=>
   go_wp2_with fail
   go_loopw [7,11] (fun o iv wr=>∃(k:Nat) (s:yx),k≤R∧o=RP ⟨s.toArray⟩∧iv=I k∧Z (s=t1++xU yq (N9 x v.box) 0 (f.take k))∧Z (∃u,yM w wr gr qr ⟨v.box,(f.take k).map (xi (N9 x v.box))++f.drop k,v.had⟩ u)) (fun _ iv _=>R - (intOf iv).toNat)
   case atStart=>exact⟨0,t1,OE _,rfl,rfl,V (by simp[xU]),e0⟩
   case round=>
    obtain⟨k,s,hk,rfl,rfl,HS,HQ⟩:=hrel
    obtain⟨u,r⟩:=HQ.o
    have ba:=H.o.at_.X2 H.o.view r
    obtain⟨A,c,ag,_,_⟩:=r.at_.sl.form
    have c1:wr.cell? (Y gr 1)=some u.vl:=r.at_.blk.cell 1
    have d9:((f.take k).map (xi (N9 x v.box))++f.drop k).length=R:=by rw[Jk,Iq.o]
    have aw:=V d9
    simp only[d9] at ag
    rw[ag] at c1
    have a0:=V r
    clear r HQ d9
    by_cases af:k < R
    ·have a8:(k:Int) < (R:Int):=O
     have fl:(0:Int)≤(k:Int):=O
     have fm:Ov.wrap ((k:Int)+1)=(k:Int)+1:=Og _ O
     have bp:k < f.length:=by rw[Iq.o];exact af
     have br:k < ((f.take k).map (xi (N9 x v.box))++f.drop k).length:=by rw[aw.o];exact af
     have bl:=Vj (zs:=N9 x v.box) bp br
     have hm:=eY wr g q x ba H.o.viv.fit gr u ⟨v.box,(f.take k).map (xi (N9 x v.box))++f.drop k,v.had⟩ a0.o.at_ k br (by show List.length _≤_;rw[aw.o];omega)
     simp only[bl] at hm
     have dj:=H.o.muid f[k] (c8.o _ (Oj bp))
     have ch:=eF H.o.viv v.box f[k] O
     have co:=VV (flags:=yq) (zs:=N9 x v.box) bp
     have an:=VU (zs:=N9 x v.box) bp
     have a2:=Qc (zs:=N9 x v.box) bp
     obtain⟨rf,bt⟩:∃rf,Yz x.zC v.box f[k]=rf:=⟨_,rfl⟩
     rw[bt] at hm ch
     obtain⟨mc,dg⟩:∃mc,f[k]=mc:=⟨_,rfl⟩
     simp only[dg] at ch co an a2 dj
     have ef:∀W,Od wr wr W→xU yq (N9 x v.box) k [mc]=[]∧xi (N9 x v.box) mc=mc→Z (s=t1++xU yq (N9 x v.box) 0 (f.take (k+1)))∧Z (∃u,yM w W gr qr ⟨v.box,(f.take (k+1)).map (xi (N9 x v.box))++f.drop (k+1),v.had⟩ u):=fun W d ⟨J,h2⟩=>
      ⟨V (by rw[co,J,Pr];exact HS.o),V ⟨u,by rw[a2 h2];exact a0.o.then d⟩⟩
     have d':=V ef
     have c4:=V ch
     have fb:=V co
     have fa:=V an
     have f4:=V dg
     have dv:=V bl
     clear ba bl co an a2 bt ef ch dg
     cases rf with
     |none=>
      go_upto_region 13 with(first
       |(go_at_call 66;refine hm.mono ?_;rintro e M ⟨d,rfl⟩;have N:=V d;clear d hm;simp only[xV,oN,Qh])
       |fail)
      go_quiet (fail)
      go_wp2_with fail
      obtain⟨k1,k2⟩:=d'.o _ (zj N.o (zO (zt M (.cells #[I 0,I 0,RP ⟨#[]⟩,I 0,RO none 0 0,RO none 0 0,I 0,I 0] 83)) nq)) (lK k c4.o)
      refine⟨?_,zV⟩
      first|exact⟨k+1,s,O,rfl,zE,k1,k2⟩|((repeat apply OA);exact⟨⟨k+1,s,O,rfl,zE,k1,k2⟩,rfl⟩)
     |some y=>
      have cx:=H.o.N8 (mc.uid,y) (O2 c4.o)
      have fd:=V cx
      go_upto_region 13 with(first
       |(go_at_call 66;refine hm.mono ?_;rintro e M ⟨d,m,b6,cj,rfl⟩;have N:=V d;have f3:=V b6;have c9:=V cj;obtain⟨Ak,nk,ck,Av,nv,cv,b5,b7⟩:=dy.o m b6;have c6:=V (And.intro b5 b7);clear d hm b6 cj;simp only[xV,Qh,b5,b7];clear b5 b7)
       |fail)
      obtain⟨U,ek⟩:∃U:Oc,U=M.alloc (.cells #[I m.p.id,I m.p.thread,Oa m.p.text,I m.p.at_,RO Ak nk ck,RO Av nv cv,I m.p.mod,I m.p.born] 83):=⟨_,rfl⟩
      have hM:=NG.new M 83 #[I m.p.id,I m.p.thread,Oa m.p.text,I m.p.at_,RO Ak nk ck,RO Av nv cv,I m.p.mod,I m.p.born]
      have ce:=zj N.o (zt M (.cells #[I m.p.id,I m.p.thread,Oa m.p.text,I m.p.at_,RO Ak nk ck,RO Av nv cv,I m.p.mod,I m.p.born] 83))
      rw[←ek] at hM ce ⊢
      have G:=a0.o.then ce
      have br:k < ((f.take k).map (xi (N9 x v.box))++f.drop k).length:=by rw[aw.o];exact af
      obtain⟨b,ab,g4,hq,Q,_,_,cf,bh⟩:=G.at_.sl.at_ (by show 0 < List.length _;rw[aw.o];omega)
      simp only[aw.o] at Q
      have ao:=OM (ag.symm.trans Q)
      obtain⟨rfl,_,rfl⟩:=ao
      have cm:=G.at_.sl
      simp only[aw.o] at cm
      rw[Q] at cm
      obtain⟨y0,y1,y2,yf⟩:=cm.seenAt k br
      have cg:((f.take k).map (xi (N9 x v.box))++f.drop k)[k]=mc:=dv.o.trans f4.o
      simp only[cg] at y0 y2
      have b3:U.cell? (Y gr 1)=some u.vl:=G.at_.blk.cell 1
      rw[Q] at b3
      have a7:=G.at_.blk.lt
      have f2:=yf 2
      obtain⟨mu,mi,mt⟩:=mc
      have bs:∀W,Od U U W→W.cell? (Y gr 1)=some (RO (some (Y b ab)) R c)∧W.cell? (Y b (ab+k * 3))=some (I mu)∧W.cell? (Y b (ab+k * 3+2))=some (I mt)∧W.cell? (Y M.heap.size 0)=some (I m.p.id)∧W.cell? (Y M.heap.size 1)=some (I m.p.thread)∧W.cell? (Y M.heap.size 2)=some (RP ⟨m.p.text.toArray⟩)∧W.cell? (Y M.heap.size 3)=some (I m.p.at_)∧W.cell? (Y M.heap.size 4)=some (RO Ak nk ck)∧W.cell? (Y M.heap.size 5)=some (RO Av nv cv)∧W.cell? (Y M.heap.size 6)=some (I m.p.mod)∧W.cell? (Y M.heap.size 7)=some (I m.p.born):=fun W d=>
       ⟨(d.cell a7).trans b3,(d.cell cf).trans y0,(d.cell cf).trans y2,(d.cell hM.lt).trans (hM.cell 0),(d.cell hM.lt).trans (hM.cell 1),(d.cell hM.lt).trans (hM.cell 2),(d.cell hM.lt).trans (hM.cell 3),(d.cell hM.lt).trans (hM.cell 4),(d.cell hM.lt).trans (hM.cell 5),(d.cell hM.lt).trans (hM.cell 6),(d.cell hM.lt).trans (hM.cell 7)⟩
      have e9:∀W,Od U U W→W.frozen? (Y b (ab+k * 3+2))=false:=fun W d=>(d.frozen cf).trans f2
      have a5:=V bs
      have ex:=V e9
      have cy:=V ce
      have b2:=V G
      have fc:=V Q
      have ew:=V cg
      have cs:m.p.mod=y.mod:=by rw[c9.o]
      have cp:=V cs
      clear ek hM ce G hq Q bh cm y1 yf cg b3 y0 y2 f2 bs e9 cf a7 cs cx
      obtain⟨z1,z2,z3,z4,z5,z6,z7,z8,z9,er,es⟩:=a5.o U (Ok _ _)
      by_cases X:mt < m.p.mod
      ·have hd:decide (mt < m.p.mod)=true:=OS X
       have ds:=rE (flags:=yq) k c4.o (show mt < y.mod by rw[←cp.o];exact X)
       have eg:=((H.o.at_.X2 H.o.view b2.o).parts m f3.o).keys.sub (T:=[]) (fun _ _ _ h=>by cases h)
       have bx:NY (mu,m.p):=by rw[c9.o];exact fd.o
       have a1:=fun W (d:Od U U W)=>C5 W k mu m c6.o.1 c6.o.2 (eg.below d) bx.few bx.short O (by simp only at dj;omega) bx.mod
       have e8:(XK yq k mu m.p).length≤30300:=by
        rw[U2]
        have J:=QG bx mu (by simp only at dj;omega)
        have h2:=Qp ((k:Int)+1) O (Rk (XN mu m.p) [32])
        simp only at J
        omega
       have dq:s.length≤600000000000:=by
        have J:=Y1 (zs:=N9 x v.box) H.o.N8 (f.take k) 0 (fun m hm=>by have:=(H.o.muid m (c8.o m (List.mem_of_mem_take hm))).2;omega) Zh
        rw[OU] at J
        have h2:=d4.o
        rw[HS.o,Oo]
        omega
       have K1:Z (s++XK yq k mu m.p=t1++xU yq (N9 x v.box) 0 (f.take (k+1))):=V (by
        rw[fb.o,ds.1,c9.o,HS.o,O4])
       have K2:Z (∀W,Od U U W→∃u,yM w (W.setCell (Y b (ab+k * 3+2)) (I m.p.mod)) gr qr ⟨v.box,(f.take (k+1)).map (xi (N9 x v.box))++f.drop (k+1),v.had⟩ u):=V fun W d=>⟨u,by
        have J:=(b2.o.then d).trans ((b2.o.then d).at_.Q5 fc.o k br m.p.mod)
        rw[fa.o,ds.2]
        simp only[ew.o] at J
        rw[←c9.o]
        exact J⟩
       obtain⟨F,hF⟩:∃F,XK yq k mu m.p=F:=⟨_,rfl⟩
       simp only[hF,xV,Qh,c6.o.1,c6.o.2] at a1
       rw[hF] at e8 K1
       have c7:=V a1
       have g8:¬9223372036854775807 < s.length+F.length:=O
       clear X ds eg bx a1 hF e8 dq
       go_quiet (fail)
       go_upto_region 14 with(fail)
       obtain⟨w4,ar⟩:∃w4:Oc,w4=U.drewN nq:=⟨_,rfl⟩
       have a6:Od U U w4:=by rw[ar];exact zO (Ok _ _) _
       rw[←ar]
       have b':=V a6
       have c':Z (Od U U w4.drew):=V (zj a6 (zG w4))
       clear ar a6 z1 z2 z3 z4 z5 z6 z7 z8 z9 er es
       go_region_held3 (fun W=>W.cell? (Y gr 1)=some (RO (some (Y b ab)) R c)∧W.cell? (Y b (ab+k * 3))=some (I mu)∧W.cell? (Y b (ab+k * 3+2))=some (I mt)∧W.cell? (Y M.heap.size 0)=some (I m.p.id)∧W.cell? (Y M.heap.size 1)=some (I m.p.thread)∧W.cell? (Y M.heap.size 2)=some (RP ⟨m.p.text.toArray⟩)∧W.cell? (Y M.heap.size 3)=some (I m.p.at_)∧W.cell? (Y M.heap.size 4)=some (RO Ak nk ck)∧W.cell? (Y M.heap.size 5)=some (RO Av nv cv)∧W.cell? (Y M.heap.size 6)=some (I m.p.mod)∧W.cell? (Y M.heap.size 7)=some (I m.p.born))
        (first
         |exact a5.o _ c'.o
         |exact a5.o _ b'.o
         |exact a5.o _ av.o
         |go_keep)
        (first
         |(go_at_call 68;refine(c7.o _ (by first|exact c'.o|exact b'.o)).mono ?_;rintro e w5 ⟨rfl,d⟩;have av:Z (Od U U w5):=V (zj (by first|exact c'.o|exact b'.o) d);clear d)
         |fail)
       go_upto_region 15 with(fail)
       obtain⟨z1,z2,z3,z4,z5,z6,z7,z8,z9,er,es⟩:=a5.o w5 av.o
       have fz:=ex.o w5 av.o
       go_still_tail 9,zQ
       change wpList _ _ _ _ _ w5.drew
       go_wp2_with fail
       have K3:=V (K2.o w5.drew (zj av.o (zG w5)))
       have K4:Z ((⟨s.toArray⟩:Oy)++⟨F.toArray⟩=⟨(s++F).toArray⟩):=V (Pj s F)
       refine⟨?_,zV⟩
       first|exact⟨k+1,s++F,O,congrArg Rn K4.o,zE,K1,K3⟩|((repeat apply OA);exact⟨⟨k+1,s++F,O,congrArg Rn K4.o,zE,K1,K3⟩,rfl⟩)
      ·have hd:decide (mt < m.p.mod)=false:=OD X
       obtain⟨k1,k2⟩:=d'.o _ cy.o (lL k c4.o (by show ¬mt < y.mod;rw[←cp.o];exact X))
       have K2:Z (∀j,∃u,yM w (U.drewN j) gr qr ⟨v.box,(f.take (k+1)).map (xi (N9 x v.box))++f.drop (k+1),v.had⟩ u):=V fun j=>by
        obtain⟨S,h3⟩:=k2.o
        exact⟨S,h3.then (zO (Ok _ _) j)⟩
       clear X
       go_quiet (fail)
       go_wp2_with fail
       refine⟨?_,zV⟩
       first|exact⟨k+1,s,O,rfl,zE,k1,V (K2.o nq)⟩|((repeat apply OA);exact⟨⟨k+1,s,O,rfl,zE,k1,V (K2.o nq)⟩,rfl⟩)
    ·have a8:¬(k:Int) < (R:Int):=O
     have df:k=R:=O
     subst df
     have bd:Z (s=t1++xU yq (N9 x v.box) 0 f):=V (by rw[HS.o,Ou pW])
     have a':Z (∃u,yM w wr gr qr ⟨v.box,f.map (xi (N9 x v.box)),v.had⟩ u):=V ⟨u,by
      have J:=a0.o
      rw[Ou pW,List.drop_of_length_le pW,Pr] at J
      exact J⟩
     go_wp2_with fail
     go_meet
     exact⟨s,rfl,bd,a'⟩
  case rest=>
   obtain⟨s,rfl,HS,a'⟩:=hcut
   obtain⟨wb,rfl⟩:∃wb:Oc,wb=wc:=⟨_,rfl⟩
   obtain⟨u,r⟩:=a'.o
   have cn:=dL wb g q x (H.o.at_.X2 H.o.view r) H.o.viv v.box
   have c0:wb.cell? (Y gr 0)=some (I v.box):=r.at_.blk.cell 0
   have dq:s.length≤600000000000:=by
    have J:=Y1 (zs:=N9 x v.box) H.o.N8 f 0 (fun m hm=>by have:=(H.o.muid m (c8.o m hm)).2;omega) (by rw[Iq.o];omega)
    have h2:=d4.o
    rw[Iq.o] at J
    rw[HS.o,Oo]
    omega
   have al:=uW H.o.viv v.box
   have eo:=H.o.zlen
   have au:Z (ur=(t1++xU yq (N9 x v.box) 0 f++(if f.length < (yy v.had (N9 x v.box) ⟨v.box,f.map (xi (N9 x v.box)),v.had⟩).l.length then VT (yy v.had (N9 x v.box) ⟨v.box,f.map (xi (N9 x v.box)),v.had⟩).l.length xS else []),yy v.had (N9 x v.box) ⟨v.box,f.map (xi (N9 x v.box)),v.had⟩)):=V (by
    rw[←a4.o,←az.o,←be.o]
    rfl)
   have K:=sN al ⟨v.box,f.map (xi (N9 x v.box)),v.had⟩
   obtain⟨L,ao⟩:∃L:yI,⟨v.box,f.map (xi (N9 x v.box)),v.had⟩=L:=⟨_,rfl⟩
   have bw:L.l.length=R:=by rw[←ao];show (f.map _).length=_;rw[Ow,Iq.o]
   have bv:L.had=v.had:=by rw[←ao]
   simp only[ao] at r au K
   try simp only[bv] at K
   obtain⟨zs,ep⟩:∃zs,N9 x v.box=zs:=⟨_,rfl⟩
   rw[ep] at cn eo K al au HS
   obtain⟨n3,cl⟩:∃n3,zs.length=n3:=⟨_,rfl⟩
   rw[cl] at cn eo
   have bo:∀k,(yy v.had (zs.take k) L).l.length≤R+n3:=fun k=>by
    have J:=Ur (had:=v.had) (zs.take k) L
    rw[OU,bw,cl] at J
    omega
   have cb:=V K
   have d1:=V bo
   have ad:=V cl
   have cw:L.box=v.box:=by rw[←ao]
   have d5:=V (And.intro bw (And.intro bv cw))
   have a0:=V r
   have db:gr < wb.heap.size:=r.at_.blk.lt
   have eh:=fun b (d:u.h=some b)=>r.at_.sl.lt b d
   have f7:=V eh
   clear ao bw bv cw K ep cl bo al r a' a4 e0 c8 d4 be az eh
   go_upto_block 4 with(first
    |(go_at_call 56;refine cn.mono ?_;rintro e M ⟨A,c,hh,rfl,hs,ct,e6⟩;have bd:=V hs;have bc:=V ct;have N:=V e6;clear hs ct e6 cn)
    |fail)
   have d3:Z (∃S,RU3 w M gr qr S L hh (RO A n3 c) zs):=V ⟨u,a0.o.then N.o,by rw[ad.o];exact bd.o,fun b d=>⟨fun hq=>by have J:=f7.o b hq;have h2:=bc.o b d;omega,fun he=>by have h2:=bc.o b d;omega⟩⟩
   go_cut [15] (fun mo wx=>∃b:Bool,mo=.bool b∧Z (b=decide (R < (yy v.had zs L).l.length))∧Z (∃S,yM w wx gr qr (yy v.had zs L) S))
   case first=>
    go_wp2_with fail
    go_loopw [15,16] (fun mo iv wr=>∃(k:Nat) (b:Bool),k≤n3∧mo=.bool b∧iv=I k∧Z (b=decide (R < (yy v.had (zs.take k) L).l.length))∧Z (∃S,RU3 w wr gr qr S (yy v.had (zs.take k) L) hh (RO A n3 c) zs)) (fun _ iv _=>n3 - (intOf iv).toNat)
    case atStart=>exact⟨0,false,OE _,rfl,rfl,V (by simp only[List.take_zero];show false=decide (R < L.l.length);rw[d5.o.1];simp),d3⟩
    case round=>
     clear d3 bd c0
     obtain⟨k,b,hk,rfl,rfl,HB,HQ⟩:=hrel
     obtain⟨S,hu⟩:=HQ.o
     by_cases af:k < n3
     ·have a8:(k:Int) < (n3:Int):=O
      have fl:(0:Int)≤(k:Int):=O
      have fm:Ov.wrap ((k:Int)+1)=(k:Int)+1:=Og _ O
      have eb:k < (zs.map Ua).length:=by rw[Ow,ad.o];exact af
      have hs:=hu.sl
      rw[ad.o] at hs
      obtain⟨bz,oz,cz,ea,Q,_,_,d8,bh⟩:=hs.at_ O
      obtain⟨rfl,_,rfl⟩:=OM Q
      obtain⟨y0,y1,y2,yf⟩:=hs.seenAt k eb
      have fn:k < zs.length:=by rw[ad.o];exact af
      have K:=cb.o k fn
      have bm:=d1.o k
      have ci:=J1 v.had (zs.take k) L
      have d7:=(Uq v.had (zs.take k) L).trans d5.o.2.2
      obtain⟨⟨zu,zy⟩,hz⟩:∃z,zs[k]=z:=⟨_,rfl⟩
      have dk:(zs.map Ua)[k]=⟨zu,zy.id,zy.mod⟩:=by rw[List.getElem_map,hz];rfl
      rw[dk] at y0 y1 y2
      simp only[hz] at K
      obtain⟨fk,e7⟩:∃fk,yy v.had (zs.take k) L=fk:=⟨_,rfl⟩
      rw[e7] at hu HB K bm ci d7
      have ev:=V d7
      have f5:=V dk
      have c1:wr.cell? (Y gr 1)=some S.vl:=hu.tr.at_.blk.cell 1
      have c2:wr.cell? (Y gr 2)=some (I fk.had):=hu.tr.at_.blk.cell 2
      have a7:=hu.tr.at_.blk.lt
      obtain⟨A3,c3,aa,f',fy⟩:=hu.tr.at_.sl.form
      obtain⟨n4,b8⟩:∃n4,fk.l.length=n4:=⟨_,rfl⟩
      rw[b8] at aa bm ci
      rw[aa] at c1
      have HU:=V hu
      have d2:=V b8
      have f6:=V aa
      have ca:=V K
      have f0:=V ci
      have cq:∀W,Od wr wr W→W.cell? (Y gr 1)=some (RO A3 n4 c3)∧W.cell? (Y gr 2)=some (I fk.had)∧W.cell? (Y bz (oz+k * 3))=some (I zu)∧W.cell? (Y bz (oz+k * 3+1))=some (I zy.id)∧W.cell? (Y bz (oz+k * 3+2))=some (I zy.mod):=fun W d=>⟨(d.cell a7).trans c1,(d.cell a7).trans c2,(d.cell d8).trans y0,(d.cell d8).trans y1,(d.cell d8).trans y2⟩
      have du:=V cq
      have g0:=V ea
      clear hu b8 aa K ci hs bh yf dk Q hz ea HQ e7 cq d7
      by_cases b4:fk.had < zu
      ·have hd:decide (fk.had < zu)=true:=OS b4
       have bb:Z (yy v.had (zs.take (k+1)) L={fk with l:=fk.l++[⟨zu,zy.id,zy.mod⟩],had:=zu}):=V (by rw[ca.o,OG b4,←ev.o];rfl)
       clear b4 ca
       go_wp2_with fail
       go_quiet (fail)
       go_upto_region 22 with(fail)
       obtain⟨w4,ar⟩:∃w4:Oc,w4=wr.drewN nq:=⟨_,rfl⟩
       have a6:Od wr wr w4:=by rw[ar];exact zO (Ok _ _) _
       rw[←ar]
       have b':=V a6
       have b0:=V (HU.o.later a6)
       obtain⟨e1,e2,e3,e4,e5⟩:=du.o w4 a6
       have dl:=b0.o.tr.at_.sl
       rw[f6.o,d2.o] at dl
       have f1:w4.frozen? (Y gr 1)=false:=b0.o.tr.at_.blk.frozen 1
       have cr:gr < w4.heap.size:=b0.o.tr.at_.blk.lt
       have dc:gr∉S.h.toList:=fun hm=>b0.o.tr.at_.sl.vu b0.o.tr.at_.blk zD gr yT rfl
       have f9:=V dl
       clear ar a6 c1 c2 y0 y1 y2 dl
       go_cut [] (fun wx=>∃q4,Z (RU3 w wx gr qr q4 {fk with l:=fk.l++[⟨zu,zy.id,zy.mod⟩]} hh (RO (some (Y bz oz)) n3 c) zs))
       case first=>
        go_region_law (first
         |(refine ye _ zF (.tmp 141) (.tmp 146) _ zF underlying56 hi el em en rfl O (f9.o.alloc _) yl w4.heap.size #[I zu,I zy.id,I zy.mod] (e':=126) (fr:=(0,0)) (heap_alloc_new w4 _) 1 1 yl zF xt yV O ?_;intro v6 h6 w9 am B b9;obtain⟨ac,ae,rfl,_,_⟩:=am.form;have ff:w9.cell? (Y gr 1)=some (RO A3 n4 c3):=(B.cell (p:=⟨gr,1,none⟩) zT dc).trans ((Pw _ _ _ cr).trans e1);have fh:w9.frozen? (Y gr 1)=false:=(B.frozen (p:=⟨gr,1,none⟩) zT dc).trans ((Pn _ _ _ cr).trans f1))
         |fail)
        all_goals
         have bj:NH S.h.toList (w4.alloc (.cells #[I zu,I zy.id,I zy.mod] 126)) w9:=⟨B.os,B.tape,B.output,B.size,B.block⟩
         have ha:=zt w4 (.cells #[I zu,I zy.id,I zy.mod] 126)
         have a3:=b0.o.later ha
         have a9:=a3.tr.at_.fD (w':=w9) (vl:=RO ac (n4+1) ae) (hh:=h6) (l:=fk.l++[⟨zu,zy.id,zy.mod⟩]) (by
          rw[Oo,Pf,d2.o,ZL]
          exact am) bj b9
         have ei:RU3 w (w9.setCell (Y gr 1) (RO ac (n4+1) ae)) gr qr ⟨h6,RO ac (n4+1) ae⟩ {fk with l:=fk.l++[⟨zu,zy.id,zy.mod⟩]} hh (RO (some (Y bz oz)) n3 c) zs:=⟨a3.tr.trans a9,(a3.sl.N4 bj (fun b d hm=>(a3.ap b d).1 yT)).far (p:=⟨gr,1,none⟩) (fun e=>(a3.ap gr e).2 rfl) _,fun b d=>⟨fun h6b=>by
          rcases b9 with h3|⟨g3,h3,h4⟩
          ·exact(a3.ap b d).1 (h3 ▸ h6b)
          ·have h5:=a3.sl.lt b d
           have h7:h6=some b:=h6b
           rw[h3] at h7
           injection h7 with h7
           have h8:(w4.alloc (.cells #[I zu,I zy.id,I zy.mod] 126)).heap.size≤g3:=h4
           omega,(a3.ap b d).2⟩⟩
         have f8:=V ei
         clear bj a3 a9 ei am B b9
         go_wp2_with fail
         go_meet
         exact⟨_,f8⟩
       case rest=>
        obtain⟨q4,HR⟩:=hcut
        obtain⟨w5,rfl⟩:∃w5:Oc,w5=wc:=⟨_,rfl⟩
        have dp:=HR.o.sl
        rw[ad.o] at dp
        obtain⟨y0,_,_,_⟩:=dp.seenAt k eb
        rw[f5.o] at y0
        have c2:w5.cell? (Y gr 2)=some (I fk.had):=HR.o.tr.at_.blk.cell 2
        have f2:w5.frozen? (Y gr 2)=false:=HR.o.tr.at_.blk.frozen 2
        have cu:=HR.o.tr.at_.setTop zu
        have K2:Z (∃S,RU3 w (w5.setCell (Y gr 2) (I zu)) gr qr S (yy v.had (zs.take (k+1)) L) hh (RO (some (Y bz oz)) n3 c) zs):=V ⟨q4,by rw[bb.o];exact HR.o.tr.trans cu,HR.o.sl.far (p:=⟨gr,2,none⟩) (fun e=>(HR.o.ap gr e).2 rfl) _,HR.o.ap⟩
        have K1:Z (true=decide (R < (yy v.had (zs.take (k+1)) L).l.length)):=V (by
         have J:=f0.o
         have h2:=d5.o.1
         have h3:=d2.o
         rw[bb.o]
         refine(OS ?_).symm
         show R < (fk.l++[_]).length
         rw[Oo,Pf]
         omega)
        clear dp cu e1 e2 e3 e4 e5 f1 dc
        go_wp2_with fail
        refine⟨?_,zV⟩
        first|exact⟨k+1,true,O,rfl,zE,K1,K2⟩|((repeat apply OA);exact⟨⟨k+1,true,O,rfl,zE,K1,K2⟩,rfl⟩)
      ·have hd:decide (fk.had < zu)=false:=OD b4
       have bb:Z (yy v.had (zs.take (k+1)) L=fk):=V (by rw[ca.o,Om b4])
       have K1:Z (b=decide (R < (yy v.had (zs.take (k+1)) L).l.length)):=V (by rw[bb.o];exact HB.o)
       have K2:Z (∀W,Od wr wr W→∃S,RU3 w W gr qr S (yy v.had (zs.take (k+1)) L) hh (RO (some (Y bz oz)) n3 c) zs):=V fun W d=>⟨S,by rw[bb.o];exact HU.o.later d⟩
       clear b4 ca
       go_wp2_with fail
       go_quiet (fail)
       go_wp2_with fail
       have K3:=V (K2.o _ (zO (Ok _ _) nq))
       refine⟨?_,zV⟩
       first|exact⟨k+1,b,O,rfl,zE,K1,K3⟩|((repeat apply OA);exact⟨⟨k+1,b,O,rfl,zE,K1,K3⟩,rfl⟩)
     ·have a8:¬(k:Int) < (n3:Int):=O
      have df:k=n3:=O
      subst df
      have N:Z (b=decide (R < (yy v.had zs L).l.length)):=V (by
       have J:=HB.o
       rw[Ou (by rw[ad.o];exact Oq _)] at J
       exact J)
      have a':Z (∃S,yM w wr gr qr (yy v.had zs L) S):=V ⟨S,by
       have J:=hu.tr
       rw[Ou (by rw[ad.o];exact Oq _)] at J
       exact J⟩
      clear hu HQ
      go_wp2_with fail
      go_meet
      exact⟨b,rfl,N,a'⟩
   case rest=>
    obtain⟨b,rfl,HB,HQ⟩:=hcut
    obtain⟨wd,rfl⟩:∃wd:Oc,wd=wc:=⟨_,rfl⟩
    obtain⟨S,r⟩:=HQ.o
    have bm:=d1.o zs.length
    rw[List.take_length] at bm
    have c1:wd.cell? (Y gr 1)=some S.vl:=r.at_.blk.cell 1
    obtain⟨A3,c3,aa,_,_⟩:=r.at_.sl.form
    obtain⟨n4,b8⟩:∃n4,(yy v.had zs L).l.length=n4:=⟨_,rfl⟩
    have P:=au.o
    have d:=HB.o
    rw[b8] at aa bm P d
    rw[Iq.o,←HS.o] at P
    rw[aa] at c1
    have a0:=V r
    clear HQ r aa b8 HB au d1 cb d3 c0 N bd bc
    cases b with
    |false=>
     have h0:¬R < n4:=of_decide_eq_false d.symm
     rw[Om h0,Pr] at P
     have a4:=V P
     clear P d
     go_wp2_with fail
     go_ret
     exact⟨by rw[a4.o];rfl,S,by rw[a4.o];exact a0.o⟩
    |true=>
     have h0:R < n4:=of_decide_eq_true d.symm
     rw[OG h0] at P
     have a4:=V P
     have da:=fun W=>Zr (n4:Int) O W
     have bk:=Yi (n4:Int) O
     obtain⟨D,hD⟩:∃D,XD (n4:Int)=D:=⟨_,rfl⟩
     rw[hD] at da bk
     have HD:=V hD
     have m1:¬9223372036854775807 < s.length+2:=O
     have m2:¬9223372036854775807 < s.length+2+D.length:=O
     have m3:¬9223372036854775807 < s.length+2+D.length+9:=O
     have cd:Z ((⟨s.toArray⟩:Oy)++⟨#[42,32]⟩++⟨D.toArray⟩++⟨#[32,69,88,73,83,84,83,13,10]⟩=⟨(s++VT (n4:Int) xS).toArray⟩):=V (by
      have d6:∀a b:Ob Oz,PK a.toArray++PK b.toArray=PK (a++b).toArray:=fun a b=>Pj a b
      unfold VT xS
      rw[HD.o]
      simp[d6])
     clear P d hD bk dq
     go_wp2_with (first
      |(go_at_call 67;refine(da _).mono ?_;rintro e w5 ⟨rfl,d⟩;have av:=V d;clear d da)
      |fail)
     go_ret
     exact⟨by rw[a4.o];exact Jc cd.o,S,by rw[a4.o];exact a0.o.then av.o⟩
end
end Go.Proofs.YtnofkliaofgiaaaGreatDoor
