/-
  The reference's small functions that only read: a mailbox's place, an email's, sums, is a text or a number in a list. The reference's small functions that read, and draw: are texts the same, are all mailboxes there, has each a number more; a number in a list; beneath one another. The walk of pillarboxref1.Fold: letters A to Z made small, in a row of bytes of the call's own. The walk of the referen
-/
import Derived.Test.YtnofkliaofgiaaaGreatDoorGZ
import Derived.Test.YtnofkliaofgiaaaGreatDoorGX
import Derived.Test.YtnofkliaofgiaaaGreatDoorGC
import Derived.Test.YtnofkliaofgiaaaGreatDoorGD
import Derived.Test.YtnofkliaofgiaaaGreatDoorGB
import Derived.Test.YtnofkliaofgiaaaGreatDoorGU
import Derived.Test.YtnofkliaofgiaaaGreatDoorGO
import Derived.Test.YtnofkliaofgiaaaGreatDoorGF
import Derived.Deep.QuietTactic
import Derived.BigQuiet
import Derived.Deep.DeepCutAuto
import Derived.Deep.CutBlock
import Derived.Deep.RegionHeld3
set_option maxRecDepth 100000
set_option maxHeartbeats 8000000
open Go.Proofs.Tryz
open Bool renaming false_eq_true→Px
open Exists renaming intro→OA
open Go renaming FuncId→PR,Program→Pv,Value→Oe,World→Oc
open Go.Ending renaming returned→RR,returned→Rv
open Go.IntKind renaming i64→Ov,u8→Rh
open Go.IntWalk renaming i64_in→Og
open Go.RowKit renaming Below→Od
open Go.RowKit.Below renaming refl→Ok
open Go.Value renaming slice→RO,string→RP
open Go.Value.slice renaming inj→OM
open Go.World renaming block_lt_of_cell?→OH
open List renaming any_eq_true→Ps,eq_nil_of_length_eq_zero→Oi,find?_cons_of_neg→Pb,getElem?_eq_getElem→Ot,getElem?_map→O5,getElem_mem→Oj,getElem_of_mem→Pg,length_take→OU,mem_map→OL,take_of_length_le→Ou,take_succ_eq_append_getElem→Oh
open Nat renaming add_assoc→O1,le_refl→Oq,le_trans→Ol,zero_le→OE
open Option.some renaming inj→O6
open Prod.mk renaming injEq→Rt
open UInt8 renaming ofNat→OW,toNat_ofNat'→Rl
open _root_ renaming ByteArray→Oy,List→Ob,Option→OC,UInt8→Oz,decide_eq_false→OD,decide_eq_true→OS,if_neg→Om,if_pos→OG
namespace Go.Proofs.YtnofkliaofgiaaaGreatDoor
theorem Mb{p:Prop}(h:p:=by
 go_region_held3 (fun W=>(W.cell? (Y B 0)=some (I m0)∧W.cell? (Y B 1)=some (I m1)∧W.cell? (Y B 2)=some (RP ⟨m2.toArray⟩)∧W.cell? (Y B 3)=some (I m3)∧W.cell? (Y B 4)=some (RO Ak lk ck)∧W.cell? (Y B 5)=some (RO Am lm cm)∧W.cell? (Y B 6)=some (I m6)∧W.cell? (Y B 7)=some (I m7))∧W.cell? (Y b3 (uw+k))=some (I Cy))
  (first
   |exact HK.o _ (Ok _ _)
   |exact HK.o _ (zG _)
   |exact HK.o _ Er.o
   |go_keep)
  (first
   |(go_at_call 54;refine(Ip.o _ uO).mono ?_;rintro e w8 ⟨rfl,Bh⟩;have Er:Z (Od wr wr w8):=V (by first|exact Bh|exact zj (zG _) Bh|exact uk Bh);clear Bh)
   |fail)
 all_goals
  go_wp2_with fail
  go_meet
  exact⟨rfl,Er⟩):p:=h
section
open Go.Shelf Go.RowKit
attribute [local go_sem ↓] Go.wp_at_zero Go.wp_at_succ
theorem dG {P:Pv}{f:PR}{args:Array Oe}{w:Oc}{n:Nat}{v:Oe}(h:Calls P f args (w.drewN n) fun e w'=>e=RR v∧w.drewN n=w'):Calls P f args (w.drewN n) fun e w''=>e=RR v∧∃m,w''=w.drewN m:=
 Calls.quiet_of_same (h.mono fun _ _ ⟨a,b⟩=>⟨a,b.symm⟩)
theorem UE {a b:Int}(h:a=b):Rv (I a)=RR (I b):=by rw[h]
theorem uG {a b:Bool}(h:a=b):Rv (.bool a)=RR (.bool b):=by rw[h]
theorem VP {α:Type}{p:α→Bool}:∀(l:Ob α) (k:Nat) (hk:k < l.length),(∀t (ht:t < l.length),t < k→p l[t]=false)→p l[k]=true→yU p l=k
 |[],k,hk,_,_=>by simp at hk
 |y :: r,0,_,_,h=>by
  have h0:p y=true:=h
  simp[yU,h0]
 |y :: r,k+1,hk,hlt,h=>by
  have h0:p y=false:=hlt 0 zv O
  have h1:=VP r k yi (fun t ht htk=>by have:=hlt (t+1) zT O;simpa using this) vZ
  unfold yU
  rw[h0,h1]
  simp only[Px,if_false]
  rw[Om O]
  omega
theorem Vg {α:Type}{p:α→Bool}:∀(l:Ob α),(∀t (ht:t < l.length),p l[t]=false)→yU p l= -1
 |[],_=>rfl
 |y :: r,h=>by
  have h0:p y=false:=h 0 zv
  have h1:=Vg r (fun t ht=>by have:=h (t+1) zT;simpa using this)
  unfold yU
  rw[h0,h1]
  simp
theorem Yy (v:Oe)(S:Ob Nat)(l:Ob xA)(id:Int)(w:Oc)(hr:NN w S 6 v l.length (zU uZ l))(hn:l.length≤1099511627776) :
  C 55 #[v,I id] w fun e w'=>e=RR (I (xC id l))∧w=w':=by
 obtain⟨A,c,D,_,_⟩:=hr.form
 subst D
 obtain⟨n,d⟩:∃n,l.length=n:=⟨_,rfl⟩
 obtain⟨R,m⟩:∃R,xC id l=R:=⟨_,rfl⟩
 have b:∀k (p:k < l.length),(∀t (ht:t < l.length),t < k→l[t].id≠id)→l[k].id=id→(k:Int)=R:=fun k p j h2=>by
  rw[←m]
  exact(VP l k p (fun t ht f=>by simpa using j t ht f) V7).symm
 have g:(∀t (ht:t < l.length),l[t].id≠id)→(-1:Int)=R:=fun h=>by
  rw[←m]
  exact(Vg l (fun t ht=>by simpa using h t ht)).symm
 have r:=V hr
 have ai:=V d
 have HY:=V b
 have HN:=V g
 rw[m]
 rw[d] at hn ⊢
 clear hr d b g m
 go_enter func55,ntmps55
 go_wp2_with fail
 go_loop [5] (fun iv=>∃k:Nat,k≤n∧iv=I k∧Z (∀t (ht:t < l.length),t < k→l[t].id≠id)) (fun iv=>n - (intOf iv).toNat)
 case atStart=>exact⟨0,OE _,rfl,V (fun _ _ h=>by omega)⟩
 case round=>
  obtain⟨k,p,rfl,HK⟩:=hrel
  by_cases af:k < n
  ·have iw:(k:Int) < (n:Int):=O
   have x:(0:Int)≤(k:Int):=O
   have jb:k < l.length:=vN
   have z:Ov.wrap ((k:Int)+1)=(k:Int)+1:=Og _ O
   obtain⟨s,E,F,i,_,_,B,_,a⟩:=r.o.at_ O
   have u:=(OM i).1
   subst u
   obtain⟨y,q⟩:∃y,l[k].id=y:=⟨_,rfl⟩
   have G:w.cell? (Y s (E+k * 6))=some (I y):=by
    have j:=a (k * 6+0) O
    rw[yv xF l k 0 jb O] at j
    refine j.trans ?_
    rw[←q]
    rfl
   have Cc:=V q
   clear a i q
   by_cases hc:y=id
   ·exact EW
   ·have f1:(y==id)=false:=vM
    have fu:Z (∀t (ht:t < l.length),t < k+1→l[t].id≠id):=V (fun t ht h=>by
     by_cases f:t < k
     ·exact HK.o t ht f
     ·obtain rfl:t=k:=O
      rw[Cc.o]
      exact hc)
    exact fM
  ·exact EG
theorem zJ.U8 {w:Oc}{g:Nat}{q:zW}{x:Acc}(h:zJ w g q x)(k:Nat)(hk:k < x.zC.length):∃b off cap m,q.vm=RO (some (Y b off)) x.zC.length cap∧b < w.heap.size∧m∈q.ms∧m.p=x.zC[k]∧∀j,j < 8→w.cell? (Y b (off+k * 8+j))=(xV m)[j]?∧w.frozen? (Y b (off+k * 8+j))=false:=by
 obtain⟨b,off,cap,_,i,_,_,f,c⟩:=h.zC.at_ O
 have a:k < q.ms.length:=by rw[h.XC];exact hk
 refine⟨b,off,cap,q.ms[k],i,f,Oj a,?_,fun j hj=>?_⟩
 ·have d:(q.ms.map (·.p))[k]?=x.zC[k]?:=by rw[h.same]
  rw[O5,Ot a,Ot hk] at d
  exact O6 d
 ·have e:=c (k * 8+j) O
  rw[yv xr q.ms k j a hj,←O1] at e
  exact e
theorem Xk (w:Oc)(g:Nat)(q:zW)(x:Acc)(id:Int)(h:zJ w g q x)(hn:x.zC.length≤1099511627776) :
  C 134 #[Y g 0,I id] w fun e w'=>e=RR (I (Z4 id x.zC))∧w=w':=by
 obtain⟨A,c,v,_,_⟩:=h.zC.form
 have i:=h.xj
 rw[v] at i
 obtain⟨n,d⟩:∃n,x.zC.length=n:=⟨_,rfl⟩
 obtain⟨R,r⟩:∃R,Z4 id x.zC=R:=⟨_,rfl⟩
 have b:∀k (u:k < x.zC.length),(∀t (ht:t < x.zC.length),t < k→x.zC[t].id≠id)→x.zC[k].id=id→(k:Int)=R:=fun k u h1 h2=>by
  rw[←r]
  exact(VP x.zC k u (fun t ht f=>by simpa using h1 t ht f) V7).symm
 have j:(∀t (ht:t < x.zC.length),x.zC[t].id≠id)→(-1:Int)=R:=fun h=>by
  rw[←r]
  exact(Vg x.zC (fun t ht=>by simpa using h t ht)).symm
 have H:=V h
 have B:=V v
 have ai:=V d
 have HY:=V b
 have HN:=V j
 rw[r]
 rw[d] at hn i
 clear h v d b j r
 go_enter func134,ntmps134
 go_wp2_with fail
 go_loop [5] (fun iv=>∃k:Nat,k≤n∧iv=I k∧Z (∀t (ht:t < x.zC.length),t < k→x.zC[t].id≠id)) (fun iv=>n - (intOf iv).toNat)
 case atStart=>exact⟨0,OE _,rfl,V (fun _ _ h=>by omega)⟩
 case round=>
  obtain⟨k,u,rfl,HK⟩:=hrel
  by_cases af:k < n
  ·have iw:(k:Int) < (n:Int):=O
   have F:(0:Int)≤(k:Int):=O
   have jb:k < x.zC.length:=vN
   have G:Ov.wrap ((k:Int)+1)=(k:Int)+1:=Og _ O
   obtain⟨D,J,K,m,l,_,_,z,a⟩:=H.o.U8 k jb
   have E:=(OM (B.o.symm.trans l)).1
   subst E
   obtain⟨y,s⟩:∃y,m.p.id=y:=⟨_,rfl⟩
   have L:w.cell? (Y D (J+k * 8))=some (I y):=by
    rw[←s]
    exact(a 0 O).1
   rw[z] at s
   have Cc:=V s
   clear a l s z
   by_cases hc:y=id
   ·exact EW
   ·have f1:(y==id)=false:=vM
    have fu:Z (∀t (ht:t < x.zC.length),t < k+1→x.zC[t].id≠id):=V (fun t ht h=>by
     by_cases f:t < k
     ·exact HK.o t ht f
     ·obtain rfl:t=k:=O
      rw[Cc.o]
      exact hc)
    exact fM
  ·exact EG
theorem DA (w:Oc)(g:Nat)(q:zW)(x:Acc)(h:zJ w g q x)(hf:Fit x) :
  C 129 #[Y g 0] w fun e w'=>e=RR (I x.zP)∧w=w':=by
 obtain⟨A,c,v,_,_⟩:=h.zC.form
 have j:=h.xj
 rw[v] at j
 obtain⟨n,d⟩:∃n,x.zC.length=n:=⟨_,rfl⟩
 have hn:n≤4294967296:=by
  have u:=hf.nm
  have R:=hf.zA
  have F:=hf.N3.mod
  omega
 have b:∀k,k≤x.zC.length→ZR (x.zC.take k)≤2147483647:=fun k S=>by
  have u:=hf.zP
  have R:=hf.N3.size
  have F:=ZT (x.zC.take k) (x.zC.drop k)
  rw[List.take_append_drop] at F
  have h4:=xo (x.zC.drop k)
  omega
 have H:=V h
 have N:=V v
 have ai:=V d
 have M:=V b
 have L:=V hf.zP.1
 rw[d] at j
 clear h v d b hf
 go_enter func129,ntmps129
 go_wp2_with fail
 go_loop [3,4] (fun sv iv=>∃(k:Nat) (s:Nat),k≤n∧sv=I s∧iv=I k∧Z (ZR (x.zC.take k)=s)) (fun _ iv=>n - (intOf iv).toNat)
 case atStart=>exact⟨0,0,OE _,rfl,rfl,V rfl⟩
 case round=>
  obtain⟨k,s,S,rfl,rfl,E⟩:=hrel
  by_cases af:k < n
  ·have r:(k:Int) < (n:Int):=O
   have T:(0:Int)≤(k:Int):=O
   have l:k < x.zC.length:=vN
   have U:Ov.wrap ((k:Int)+1)=(k:Int)+1:=Og _ O
   obtain⟨P,X,c1,m,t,_,_,J,a⟩:=H.o.U8 k l
   have Q:=(OM (N.o.symm.trans t)).1
   subst Q
   obtain⟨y,B⟩:∃y,m.p.text=y:=⟨_,rfl⟩
   obtain⟨z,D⟩:∃z,y.length=z:=⟨_,rfl⟩
   have d0:w.cell? (Y P (X+k * 8+2))=some (RP ⟨y.toArray⟩):=by
    rw[←B]
    exact(a 2 O).1
   have W:(⟨y.toArray⟩:Oy).size=z:=by rw[←D];simp[ByteArray.size]
   have f:ZR (x.zC.take (k+1))=((s+z:Nat):Int):=by
    rw[Oh l,ZT,E.o,Q8,←J,B,D]
    omega
   have G:=M.o (k+1) O
   rw[f] at G
   have hw:Ov.wrap ((s:Int)+(z:Int))=(s:Int)+(z:Int):=Og _ O
   have i:=V f
   clear a t B J D f G
   go_wp2_with fail
   refine⟨?_,zV⟩
   first|exact⟨k+1,s+z,O,zE,zE,i⟩|((repeat apply OA);exact⟨⟨k+1,s+z,O,zE,zE,i⟩,rfl⟩)
  ·have r:¬(k:Int) < (n:Int):=O
   have K:Z ((s:Int)=x.zP):=V (by
    have u:=E.o
    rw[Ou Vb] at u
    rw[L.o,u])
   go_wp2_with fail
   go_ret
   exact⟨UE K.o,rfl⟩
theorem rx (v:Oe)(S:Ob Nat)(l:yF)(t:yx)(w:Oc)(hr:NN w S 1 v l.length (l.map encStr))(hn:l.length≤1099511627776) :
  C 136 #[v,Oa t] w fun e w'=>e=RR (.bool (decide (t∈l)))∧w=w':=by
 obtain⟨A,c,x,_,_⟩:=hr.form
 subst x
 obtain⟨n,b⟩:∃n,l.length=n:=⟨_,rfl⟩
 obtain⟨R,hR⟩:∃R,decide (t∈l)=R:=⟨_,rfl⟩
 have a:∀k (g:k < l.length),l[k]=t→true=R:=fun k g h2=>by
  rw[←hR]
  exact(OS (by rw[←h2];exact Oj g)).symm
 have d:(∀j (hj:j < l.length),l[j]≠t)→false=R:=fun h=>by
  exact Gk
 have i:=V hr
 have ai:=V b
 have m:=V a
 have HN:=V d
 rw[hR]
 rw[b] at hn ⊢
 clear hr b a d hR
 go_enter func136,ntmps136
 go_wp2_with fail
 go_loop [5] (fun iv=>∃k:Nat,k≤n∧iv=I k∧Z (∀j (hj:j < l.length),j < k→l[j]≠t)) (fun iv=>n - (intOf iv).toNat)
 case atStart=>exact⟨0,OE _,rfl,V (fun _ _ h=>by omega)⟩
 case round=>
  obtain⟨k,g,rfl,HK⟩:=hrel
  by_cases af:k < n
  ·have iw:(k:Int) < (n:Int):=O
   have r:(0:Int)≤(k:Int):=O
   have jb:k < l.length:=vN
   have s:Ov.wrap ((k:Int)+1)=(k:Int)+1:=Og _ O
   obtain⟨p,z,B,f,_,_,u,_,kg⟩:=i.o.at_ O
   have q:=(OM f).1
   subst q
   obtain⟨y,hy⟩:∃y,l[k]=y:=⟨_,rfl⟩
   have D:w.cell? (Y p (z+k))=some (RP ⟨y.toArray⟩):=by
    exact GW
   have Cc:=V hy
   clear kg f hy
   by_cases hc:y=t
   ·subst hc
    have HE:Z (true=R):=V (m.o k jb Cc.o)
    go_wp2_with fail
    go_ret
    exact⟨uG HE.o,rfl⟩
   ·exact Mp
  ·exact EL
theorem oy (v:Oe)(S:Ob Nat)(l:Ob Int)(t:Int)(w:Oc)(hr:NN w S 1 v l.length (l.map yJ))(hn:l.length≤1099511627776) :
  C 138 #[v,I t] w fun e w'=>e=RR (.bool (decide (t∈l)))∧w=w':=by
 obtain⟨A,c,x,_,_⟩:=hr.form
 subst x
 obtain⟨n,b⟩:∃n,l.length=n:=⟨_,rfl⟩
 obtain⟨R,hR⟩:∃R,decide (t∈l)=R:=⟨_,rfl⟩
 have a:∀k (g:k < l.length),l[k]=t→true=R:=fun k g h2=>by
  rw[←hR]
  exact(OS (by rw[←h2];exact Oj g)).symm
 have d:(∀j (hj:j < l.length),l[j]≠t)→false=R:=fun h=>by
  exact Gk
 have i:=V hr
 have ai:=V b
 have m:=V a
 have HN:=V d
 rw[hR]
 rw[b] at hn ⊢
 clear hr b a d hR
 go_enter func138,ntmps138
 go_wp2_with fail
 go_loop [5] (fun iv=>∃k:Nat,k≤n∧iv=I k∧Z (∀j (hj:j < l.length),j < k→l[j]≠t)) (fun iv=>n - (intOf iv).toNat)
 case atStart=>exact⟨0,OE _,rfl,V (fun _ _ h=>by omega)⟩
 case round=>
  obtain⟨k,g,rfl,HK⟩:=hrel
  by_cases af:k < n
  ·have iw:(k:Int) < (n:Int):=O
   have r:(0:Int)≤(k:Int):=O
   have jb:k < l.length:=vN
   have s:Ov.wrap ((k:Int)+1)=(k:Int)+1:=Og _ O
   obtain⟨p,z,B,f,_,_,u,_,kg⟩:=i.o.at_ O
   have q:=(OM f).1
   subst q
   obtain⟨y,hy⟩:∃y,l[k]=y:=⟨_,rfl⟩
   have D:w.cell? (Y p (z+k))=some (I y):=by
    exact GW
   have Cc:=V hy
   clear kg f hy
   by_cases hc:y=t
   ·have f1:(y==t)=true:=vM
    have HE:Z (true=R):=V (m.o k jb (by rw[Cc.o,hc]))
    clear hc
    go_wp2_with fail
    go_ret
    exact⟨uG HE.o,rfl⟩
   ·exact Mp
  ·exact EL
theorem dK (v1 v2:Oe)(S1 S2:Ob Nat)(l m:yF)(w:Oc)(h1:NN w S1 1 v1 l.length (l.map encStr))(h2:NN w S2 1 v2 m.length (m.map encStr))(hn:l.length≤1099511627776)(hm:m.length≤1099511627776) :
  C 135 #[v1,v2] w fun e w'=>e=RR (.bool (decide (l=m)))∧Od w w w':=by
 obtain⟨A1,c1,b,_,_⟩:=h1.form
 obtain⟨A2,c2,c,_,_⟩:=h2.form
 subst b c
 obtain⟨n,p⟩:∃n,l.length=n:=⟨_,rfl⟩
 obtain⟨E,j⟩:∃E,m.length=E:=⟨_,rfl⟩
 obtain⟨R,D⟩:∃R,decide (l=m)=R:=⟨_,rfl⟩
 have B:¬l=m→false=R:=fun h=>by rw[←D];exact(OD h).symm
 have g:l=m→true=R:=fun h=>by rw[←D];exact(OS h).symm
 have F:=V h1
 have G:=V h2
 have ai:=V p
 have i:=V j
 have P:=V g
 have N:=V B
 rw[D]
 rw[p] at hn ⊢
 rw[j] at hm ⊢
 clear h1 h2 p j D g B
 by_cases a:n=E
 case neg=>
  have a2:((n:Int) !=(E:Int))=true:=zT
  have r:Z (false=R):=V (N.o (fun h=>a (by rw[←ai.o,←i.o,h])))
  clear a
  go_enter func135,ntmps135
  go_wp2_with fail
  go_ret
  exact⟨uG r.o,Ok _ _⟩
 subst a
 go_enter func135,ntmps135
 go_wp2_with fail
 go_loopw [5] (fun iv wr=>∃k:Nat,k≤n∧iv=I k∧Z (Od w w wr)∧Z (l.take k=m.take k)) (fun iv _=>n - (intOf iv).toNat)
 case atStart=>exact⟨0,OE _,rfl,V (Ok _ _),V rfl⟩
 case round=>
  obtain⟨k,hk,rfl,q,M⟩:=hrel
  by_cases af:k < n
  ·have A:(k:Int) < (n:Int):=O
   have a0:(0:Int)≤(k:Int):=O
   have v:k < l.length:=vN
   have x:k < m.length:=by rw[i.o];exact af
   have a1:Ov.wrap ((k:Int)+1)=(k:Int)+1:=Og _ O
   obtain⟨y,K⟩:∃y,l[k]=y:=⟨_,rfl⟩
   obtain⟨z,L⟩:∃z,m[k]=z:=⟨_,rfl⟩
   obtain⟨Q,o1,T,b,_,_,H,_,d⟩:=F.o.at_ O
   obtain⟨S,o2,U,c,_,_,J,_,f⟩:=G.o.at_ O
   have W:=(OM b).1
   have X:=(OM c).1
   subst W X
   have p0:wr.cell? (Y Q (o1+k))=some (RP ⟨y.toArray⟩):=by
    refine(q.o.cell H).trans ((d k O).trans ?_)
    rw[O5,Ot v,K]
    rfl
   have q0:wr.cell? (Y S (o2+k))=some (RP ⟨z.toArray⟩):=by
    refine(q.o.cell J).trans ((f k O).trans ?_)
    rw[O5,Ot x,L]
    rfl
   have t:=V K
   have u:=V L
   clear d f b c K L
   by_cases hc:y=z
   ·subst hc
    have s:Z (l.take (k+1)=m.take (k+1)):=V (by rw[Oh v,Oh x,M.o,t.o,u.o])
    go_wp2_with fail
    go_quiet (fail)
    go_wp2_with fail
    refine⟨?_,zV⟩
    first|exact⟨k+1,O,zE,V (zO q.o _),s⟩|((repeat apply OA);exact⟨⟨k+1,O,zE,V (zO q.o _),s⟩,rfl⟩)
   ·have f1:(y==z)=false:=vM
    have f2:(y !=z)=true:=vM
    have r:Z (false=R):=V (N.o (fun h=>hc (by rw[←t.o,←u.o];subst h;rfl)))
    clear hc
    go_wp2_with fail
    go_quiet (fail)
    go_wp2_with fail
    go_ret
    exact⟨uG r.o,zO q.o _⟩
  ·have A:¬(k:Int) < (n:Int):=O
   have r:Z (true=R):=V (P.o (by
    have h1:=M.o
    rw[Ou Vb,Ou (by rw[i.o];omega)] at h1
    exact h1))
   go_wp2_with fail
   go_ret
   exact⟨uG r.o,q.o⟩
theorem tU (w:Oc)(g:Nat)(q:zW)(x:Acc)(v:Oe)(S:Ob Nat)(l:Ob Int)(h:zJ w g q x)(hnb:x.zg.length≤1099511627776)(hr:NN w S 1 v l.length (l.map yJ))(hn:l.length≤1099511627776) :
  C 128 #[Y g 0,v] w fun e w'=>e=RR (.bool (!l.any (fun id=>!zZ x.zg id)))∧Od w w w':=by
 obtain⟨A,c,hv,_,_⟩:=hr.form
 subst hv
 obtain⟨n,r⟩:∃n,l.length=n:=⟨_,rfl⟩
 obtain⟨R,F⟩:∃R,(!l.any (fun id=>!zZ x.zg id))=R:=⟨_,rfl⟩
 have D:∀k (L:k < l.length),zZ x.zg l[k]=false→false=R:=fun k L h2=>by
  rw[←F]
  have:l.any (fun id=>!zZ x.zg id)=true:=Ps.2 ⟨l[k],Oj L,by simp[h2]⟩
  rw[this]
  rfl
 have f:(∀j (hj:j < l.length),zZ x.zg l[j]=true)→true=R:=fun h=>by
  rw[←F]
  have:l.any (fun id=>!zZ x.zg id)=false:=by
   exact GS
  rw[this]
  rfl
 obtain⟨H,J,qw,_,_⟩:=h.zg.form
 have i:=h.yZ
 rw[qw] at i
 have B:∀W id,W.heap=w.heap→C 55 #[RO H x.zg.length J,I id] W fun e w'=>e=RR (I (xC id x.zg))∧W=w':=fun W id he=>by
  exact GJ
 have t:=V B
 have P:=V hr
 have ai:=V r
 have HY:=V f
 have N:=V D
 rw[F]
 obtain⟨G,b⟩:∃G,x.zg.length=G:=⟨_,rfl⟩
 rw[b] at i t hnb
 rw[r] at hn ⊢
 clear hr r f D F h qw B b
 go_enter func128,ntmps128
 go_wp2_with fail
 go_loopw [5] (fun iv wr=>∃(k d:Nat),k≤n∧iv=I k∧Z (wr=w.drewN d)∧Z (∀j (hj:j < l.length),j < k→zZ x.zg l[j]=true)) (fun iv _=>n - (intOf iv).toNat)
 case atStart=>exact⟨0,0,OE _,rfl,V rfl,V (fun _ _ h=>by omega)⟩
 case round=>
  obtain⟨k,d,L,rfl,HW,HK⟩:=hrel
  by_cases af:k < n
  ·have iw:(k:Int) < (n:Int):=O
   have X:(0:Int)≤(k:Int):=O
   have jb:k < l.length:=vN
   have a0:Ov.wrap ((k:Int)+1)=(k:Int)+1:=Og _ O
   obtain⟨Q,o1,c1,E,_,_,a1,_,kg⟩:=P.o.at_ O
   have T:=(OM E).1
   subst T
   obtain⟨y,hy⟩:∃y,l[k]=y:=⟨_,rfl⟩
   have d0:wr.cell? (Y Q (o1+k))=some (I y):=by
    exact GK
   have a2:wr.cell? (Y g 10)=some (RO H G J):=by rw[HW.o];exact i
   have M:=fun m=>t.o (wr.drewN m) y (by rw[HW.o];rfl)
   have a:=ua y x.zg
   obtain⟨z,p⟩:∃z,xC y x.zg=z:=⟨_,rfl⟩
   rw[p] at a
   have HQ:Z (∀m,C 55 #[RO H G J,I y] (wr.drewN m) fun e w'=>e=RR (I z)∧wr.drewN m=w'):=V (fun m=>by
    have h1:=M m
    rw[p] at h1
    exact h1)
   have u:=V hy
   clear kg E hy M p
   cases s:zZ x.zg y with
   |false=>
    rw[s] at a
    have U:decide (z < 0)=true:=a
    have HE:Z (false=R):=V (N.o k jb (by rw[u.o];exact s))
    clear s a
    exact EE
   |true=>
    rw[s] at a
    have U:decide (z < 0)=false:=a
    have fu:Z (∀j (hj:j < l.length),j < k+1→zZ x.zg l[j]=true):=V (fun j hj h=>by
     by_cases K:j < k
     ·exact HK.o j hj K
     ·obtain rfl:j=k:=O
      rw[u.o]
      exact s)
    clear s a
    exact MA
  ·exact M6
theorem kV (w:Oc)(g:Nat)(q:zW)(x:Acc)(v:Oe)(S:Ob Nat)(l:Ob Int)(h:zJ w g q x)(hnb:x.zg.length≤1099511627776)(hr:NN w S 1 v l.length (l.map yJ))(hn:l.length≤1099511627776)(hin:∀i∈l,i∈ids x.zg) :
  C 130 #[Y g 0,v] w fun e w'=>e=RR (.bool (!l.any x.spent))∧Od w w w':=by
 obtain⟨A,c,hv,_,_⟩:=hr.form
 subst hv
 obtain⟨n,z⟩:∃n,l.length=n:=⟨_,rfl⟩
 obtain⟨R,hR⟩:∃R,(!l.any x.spent)=R:=⟨_,rfl⟩
 have N:∀k (hk:k < l.length),x.spent l[k]=true→false=R:=fun k hk h2=>by
  rw[←hR]
  have:l.any x.spent=true:=Ps.2 ⟨l[k],Oj hk,h2⟩
  rw[this]
  rfl
 have s:(∀j (hj:j < l.length),x.spent l[j]=false)→true=R:=fun h=>by
  rw[←hR]
  have:l.any x.spent=false:=by
   exact GS
  rw[this]
  rfl
 obtain⟨U,X,qw,_,_⟩:=h.zg.form
 have t:=h.yZ
 rw[qw] at t
 have c5:w.cell? (Y g 5)=some (I x.N3.vC):=h.cells 5
 have M:∀W id,W.heap=w.heap→C 55 #[RO U x.zg.length X,I id] W fun e w'=>e=RR (I (xC id x.zg))∧W=w':=fun W id he=>by
  exact GJ
 have G:=V M
 have H:Z (Sl w 73 6 (RO U x.zg.length X) q.hb x.zg.length (zU uZ x.zg)):=V (by rw[←qw];exact h.zg)
 have a0:=V hin
 have HR:=V hr
 have ai:=V z
 have HY:=V s
 have HN:=V N
 rw[hR]
 obtain⟨F,a⟩:∃F,x.zg.length=F:=⟨_,rfl⟩
 have a2:=V a
 rw[a] at t G hnb H
 rw[z] at hn ⊢
 obtain⟨B,u⟩:∃B,x.N3.vC=B:=⟨_,rfl⟩
 rw[u] at c5
 have a1:=V u
 clear hr z s N hR h qw M a hin u
 go_enter func130,ntmps130
 go_wp2_with fail
 go_loopw [5] (fun iv wr=>∃(k d:Nat),k≤n∧iv=I k∧Z (wr=w.drewN d)∧Z (∀j (hj:j < l.length),j < k→x.spent l[j]=false)) (fun iv _=>n - (intOf iv).toNat)
 case atStart=>exact⟨0,0,OE _,rfl,V rfl,V (fun _ _ h=>by omega)⟩
 case round=>
  obtain⟨k,d,hk,rfl,HW,HK⟩:=hrel
  by_cases af:k < n
  ·have iw:(k:Int) < (n:Int):=O
   have a4:(0:Int)≤(k:Int):=O
   have jb:k < l.length:=vN
   have a5:Ov.wrap ((k:Int)+1)=(k:Int)+1:=Og _ O
   obtain⟨b1,o1,c1,Q,_,_,a6,_,kg⟩:=HR.o.at_ O
   have e1:=(OM Q).1
   subst e1
   obtain⟨y,hy⟩:∃y,l[k]=y:=⟨_,rfl⟩
   have d0:wr.cell? (Y b1 (o1+k))=some (I y):=by
    exact GK
   have aa:wr.cell? (Y g 10)=some (RO U F X):=by rw[HW.o];exact t
   have k5:wr.cell? (Y g 5)=some (I B):=by rw[HW.o];exact c5
   obtain⟨p,hp,L,_,P,_,_⟩:=YR (a0.o y (hy ▸ Oj jb))
   have a8:p < F:=by rw[←a2.o];exact hp
   have HQ:Z (∀m,C 55 #[RO U F X,I y] (wr.drewN m) fun e w'=>e=RR (I (p:Int))∧wr.drewN m=w'):=V (fun m=>by
    have h1:=G.o (wr.drewN m) y (by rw[HW.o];rfl)
    rw[L] at h1
    exact h1)
   obtain⟨b9,o9,c9,_,T,_,_,_,f⟩:=H.o.at_ O
   have e9:=(OM T).1
   subst e9
   obtain⟨D,b⟩:∃D,x.zg[p].next=D:=⟨_,rfl⟩
   have k4:wr.cell? (Y b9 (o9+p * 6+4))=some (I D):=by
    rw[HW.o,O1]
    refine(f (p * 6+4) O).1.trans ?_
    rw[yv xF x.zg p 4 hp O,←b]
    rfl
   have a7:(0:Int)≤(p:Int):=O
   have a9:(p:Int) < (F:Int):=O
   have r:x.spent y=decide (B < D):=by
    unfold Acc.spent
    rw[P,b,a1.o]
   have K:=V hy
   have J:=V r
   clear kg Q hy f T L P b r
   by_cases E:B < D
   ·have g1:decide (B < D)=true:=OS E
    have HE:Z (false=R):=V (HN.o k jb (by rw[K.o,J.o];exact OS E))
    clear E
    exact EE
   ·have g1:decide (B < D)=false:=OD E
    have fu:Z (∀j (hj:j < l.length),j < k+1→x.spent l[j]=false):=V (fun j hj h=>by
     by_cases a3:j < k
     ·exact HK.o j hj a3
     ·obtain rfl:j=k:=O
      rw[K.o,J.o]
      exact OD E)
    clear E
    exact MA
  ·exact M6
end
section
open Go.RowKit
theorem La (c:Oz)(h1:65≤(c.toNat:Int))(h2:(c.toNat:Int)≤90):(c.toNat:Int)+32=((Kj c).toNat:Int):=(qX c h1 h2).symm
theorem tB (c:Oz)(h:¬(65≤(c.toNat:Int)∧(c.toNat:Int)≤90)):Kj c=c:=by
 have:=cN c h
 unfold LR at this
 exact UInt8.toNat_inj.1 O
theorem Uo (s:Oy)(w:Oc)(hs:s.size≤140737488351232) :
  C 172 #[.string s] w fun e w'=>e=RR (RP (bO s))∧Od w w w':=by
 go_enter func172,ntmps172
 go_wp2_with (refine aM rfl 9 95 5 _ rfl underlying9 underlying95 underlying5 _ rfl ?_)
 intro cap K D _ l G r
 have p:=V l
 clear l
 go_wp2
 go_loopw [4] (fun i wr=>∃k:Nat,k≤s.size∧i=I k∧rL wr w.heap.size (vK s.data.toList k)∧w.heap.size < wr.heap.size∧Od w w wr) (fun i _=>s.size - (intOf i).toNat)
 case atStart=>exact⟨0,OE _,rfl,by rw[jO];exact p.o,r,G⟩
 case round=>
  obtain⟨k,J,rfl,f,Eb,hb2⟩:=hrel
  by_cases v:k < s.size
  ·have j:k < s.data.toList.length:=by rw[jJ];exact v
   have n:k < (vK s.data.toList k).length:=by rw[YH];exact j
   obtain⟨B,H⟩:=f k n
   rw[cO _ _ j n] at B
   have t:=V f
   have g:=QP s.data.toList k j
   have a:=jN s.data.toList k j
   have b:=La s.data.toList[k]
   have d:=tB s.data.toList[k]
   generalize s.data.toList[k]=c at B g a b d
   have E:=V g
   have x:=V a
   have F:=V b
   have y:=V d
   clear f g a b d
   by_cases z:65≤(c.toNat:Int)
   ·by_cases A:(c.toNat:Int)≤90
    ·go_wp2
     refine⟨?_,zV⟩
     have Bg:rL (wr.setCell (Y w.heap.size k) (.int .u8 ((c.toNat:Int)+32))) w.heap.size (vK s.data.toList (k+1)):=by
      rw[←E.o,F.o z A]
      exact t.o.set k n _
     have q:Od w w (wr.setCell (Y w.heap.size k) (.int .u8 ((c.toNat:Int)+32))):=hb2.setCell (Oq _) _
     first|exact⟨k+1,O,zE,Bg,by simpa using Eb,q⟩|((repeat apply OA);exact⟨⟨k+1,O,zE,Bg,by simpa using Eb,q⟩,rfl⟩)
    ·have Bg:rL wr w.heap.size (vK s.data.toList (k+1)):=by
      rw[←x.o (y.o (fun h=>A h.2))]
      exact t.o
     exact Nc
   ·have Bg:rL wr w.heap.size (vK s.data.toList (k+1)):=by
     rw[←x.o (y.o (fun h=>z h.1))]
     exact t.o
    exact Nc
  ·have u:k=s.size:=O
   subst u
   have m:=uA (P:=prog) (cap:=cap) underlying95 underlying5 f s.size (by rw[YH,jJ]) 9 underlying9
   rw[show vK s.data.toList s.size=Zn s.data.toList from by rw[←jJ,nh]] at m
   clear f
   go_wp2
   go_ret
   exact⟨rfl,hb2⟩
theorem QW (r:Int)(h0:0≤r)(h1:r < 1073741824):bits .and .i64 r 63=r % 64:=bits_mask .i64 62 zD (fun n _ _=>Og _ O) 6 zD r h0 O
theorem tS (r:Int)(_:0≤r):bits .or .i64 128 (r % 64)=128+r % 64:=bits_join .i64 62 zD (fun n h0 h1=>Og _ O) 6 128 (r % 64) O O O O O O
theorem tT (r:Int)(_:0≤r):Rh.wrap (128+r % 64)=128+r % 64:=YO
theorem Lr (r:Int)(h0:0≤r)(h1:r < 1073741824)(p:Ob Oz)(hp:gS r.toNat=p)(w:Oc) :
  C 251 #[I r] w fun e w'=>e=RR (RP ⟨p.toArray⟩)∧Od w w w':=by
 by_cases t:1114111 < r
 ·have e:p=[]:=fX
  exact GZ
 by_cases a2:55296≤r∧r≤57343
 ·have e:p=[]:=fX
  obtain⟨a2,l⟩:=a2
  exact GZ
 by_cases l:r < 128
 ·have e:p=[OW r.toNat]:=IY
  subst e
  have x:Rh.wrap r=r:=YO
  have a:=conv1 r O w
  have b1:¬55296≤r:=O
  clear hp a2
  go_enter func251,ntmps251
  go_wp2
  go_ret
  exact⟨rfl,(Ok _ w).alloc (Oq _) _⟩
 by_cases u:r < 2048
 ·have e:p=[OW (192+r / 64).toNat,OW (128+r % 64).toNat]:=by
   exact Nu
  have j:bits .or .i64 192 (r / 64)=192+r / 64:=bits_join .i64 62 zD (fun n h0 h1=>Og _ O) 6 192 (r / 64) O O O O O O
  have k:Rh.wrap (192+r / 64)=192+r / 64:=YO
  have a:=conv2 (192+r / 64) (128+r % 64) O O w
  rw[←e] at a
  have b:=QW r h0 h1
  have c:=tS r h0
  have d:=tT r h0
  have b1:¬55296≤r:=O
  exact FP
 by_cases v:r < 65536
 ·have e:p=[OW (224+r / 4096).toNat,OW (128+r / 64 % 64).toNat,OW (128+r % 64).toNat]:=by
   exact MJ
  have j:bits .or .i64 224 (r / 4096)=224+r / 4096:=bits_join .i64 62 zD (fun n h0 h1=>Og _ O) 5 224 (r / 4096) O O O O O O
  have k:Rh.wrap (224+r / 4096)=224+r / 4096:=YO
  have a:=conv3 (224+r / 4096) (128+r / 64 % 64) (128+r % 64) O O O w
  rw[←e] at a
  have b:=QW r h0 h1
  have c:=tS r h0
  have d:=tT r h0
  have f:=QW (r / 64) O O
  have g:=tS (r / 64) O
  have h:=tT (r / 64) O
  have b1:55296≤r→¬r≤57343:=fun h1 h2=>a2 ⟨h1,h2⟩
  clear hp a2 e
  go_enter func251,ntmps251
  by_cases i:55296≤r
  ·have m:=b1 i
   exact Hn
  ·exact Hn
 ·have e:p=[OW (240+r / 262144).toNat,OW (128+r / 4096 % 64).toNat,OW (128+r / 64 % 64).toNat,OW (128+r % 64).toNat]:=by
   exact Mw
  have j:bits .or .i64 240 (r / 262144)=240+r / 262144:=bits_join .i64 62 zD (fun n h0 h1=>Og _ O) 4 240 (r / 262144) O O O O O O
  have k:Rh.wrap (240+r / 262144)=240+r / 262144:=YO
  have a:=conv4 (240+r / 262144) (128+r / 4096 % 64) (128+r / 64 % 64) (128+r % 64) O O O O w
  rw[←e] at a
  have b:=QW r h0 h1
  have c:=tS r h0
  have d:=tT r h0
  have f:=QW (r / 64) O O
  have g:=tS (r / 64) O
  have h:=tT (r / 64) O
  have o:=QW (r / 4096) O O
  have q:=tS (r / 4096) O
  have s:=tT (r / 4096) O
  have i:55296≤r:=O
  have m:¬r≤57343:=O
  exact FP
def uD (c:Nat):Nat×Nat:=if 240≤c then (4,c % 8) else if 224≤c then (3,c % 16) else if 192≤c then (2,c % 32) else (1,c)
theorem rA (c:Nat):1≤(uD c).1∧(uD c).1≤4:=by
 unfold uD
 repeat' split
 all_goals simp
theorem CZ {r:Nat}{c:Oz}{a b d:Oz}(h:gS r=[c,a,b,d]):c.toNat≤244:=by
 unfold gS at h
 split at h
 ·cases h
 split at h
 ·simp at h
 split at h
 ·simp at h
 split at h
 ·simp at h
 ·rename_i h1 _ _ _
  simp only[List.cons.injEq] at h
  rw[←h.1,Rl]
  omega
theorem sS (c:Oz)(r:Ob Oz):bK (c :: r)=if r.length+1 < (uD c.toNat).1 then none
  else if gS (Zp (uD c.toNat).2 (r.take ((uD c.toNat).1 - 1)))=c :: r.take ((uD c.toNat).1 - 1) then some (Zp (uD c.toNat).2 (r.take ((uD c.toNat).1 - 1)),(uD c.toNat).1) else none:=by
 have m:=c.toNat_lt
 by_cases h1:c.toNat < 128
 ·have e:vt c.toNat=(1,c.toNat):=by unfold vt;rw[OG h1]
  have f:uD c.toNat=(1,c.toNat):=IZ
  rw[bK,e,f]
  simp
 by_cases h:c.toNat < 192
 ·have e:vt c.toNat=(0,0):=I1
  have f:uD c.toNat=(1,c.toNat):=IZ
  rw[bK,e,f,OG zv,Om zv]
  simp only[Nat.sub_self,List.take_zero,Zp,List.foldl_nil]
  rw[Om]
  unfold gS
  rw[Om O,Om O,OG O]
  simp
 by_cases i:c.toNat < 224
 ·have e:vt c.toNat=(2,c.toNat % 32):=by unfold vt;rw[Om h1,OG O]
  have f:uD c.toNat=(2,c.toNat % 32):=by unfold uD;rw[Om O,Om O,OG O]
  rw[bK,e,f]
  simp
 by_cases j:c.toNat < 240
 ·have e:vt c.toNat=(3,c.toNat % 16):=by unfold vt;rw[Om h1,Om O,OG O]
  have f:uD c.toNat=(3,c.toNat % 16):=by unfold uD;rw[Om O,OG O]
  rw[bK,e,f]
  simp
 by_cases k:c.toNat < 248
 ·have e:vt c.toNat=(4,c.toNat % 8):=by unfold vt;rw[Om h1,Om O,Om O,OG O]
  have f:uD c.toNat=(4,c.toNat % 8):=by unfold uD;rw[OG O]
  rw[bK,e,f]
  simp
 ·have e:vt c.toNat=(0,0):=I1
  have f:uD c.toNat=(4,c.toNat % 8):=by unfold uD;rw[OG O]
  rw[bK,e,f,OG zv]
  simp only
  by_cases g:r.length+1 < 4
  ·rw[OG g]
  ·rw[Om g,Om]
   intro hp
   match r,g with
   |[],g=>exact g zv
   |[_],g=>exact g zv
   |[_,_],g=>exact g zv
   |a :: b :: d :: r',_=>
    have l:=CZ (c:=c) (a:=a) (b:=b) (d:=d) YN
    omega
theorem mO (c:Nat)(hc:c < 256)(l:Ob Oz)(hl:l.length≤3):Zp (uD c).2 l < 67108864:=by
 have a:=qH (uD c).2 l
 have d:(uD c).2 < 192:=by
  unfold uD
  repeat' split
  all_goals (simp only;omega)
 have b:64 ^ l.length≤64 ^ 3:=Nat.pow_le_pow_right O hl
 calc Zp (uD c).2 l < ((uD c).2+1) * 64 ^ l.length:=a
  _≤192 * 64 ^ 3:=Nat.mul_le_mul O b
  _ < 67108864:=zD
theorem rp (s:Oy)(k:Nat)(hk:k < s.size)(hs:s.size≤4294967296)(v x:Int)(hv:sR s k=(v,x))(w:Oc) :
  C 209 #[.string s,I k] w fun e w'=>e=RR (.tuple #[I v,I x])∧Od w w w':=by
 have K:=s[k].toNat_lt
 obtain⟨n,m⟩:∃n,(uD s[k].toNat).1=n:=⟨_,rfl⟩
 obtain⟨b,u⟩:∃b,(uD s[k].toNat).2=b:=⟨_,rfl⟩
 have a9:n≤4:=by rw[←m];exact(rA _).2
 have a8:1≤n:=by rw[←m];exact(rA _).1
 have M:Ov.wrap ((s.size:Int) - k)=(s.size:Int) - k:=Og _ O
 have h:(s.data.toList.drop (k+1)).length+1=s.size - k:=zT
 have L:bK (s.data.toList.drop k)=if s.size - k < n then none else if gS (Zp b ((s.data.toList.drop (k+1)).take (n - 1)))=(s.data.toList.drop k).take n then some (Zp b ((s.data.toList.drop (k+1)).take (n - 1)),n) else none:=by
  rw[VJ s k hk,sS,m,u,h]
  obtain⟨N,rfl⟩:∃N,n=N+1:=⟨n - 1,O⟩
  rw[List.take_succ_cons,Nat.add_sub_cancel]
 have y:∀j,j≤n→Zp b ((s.data.toList.drop (k+1)).take (j - 1)) < 67108864:=fun j hj=>by
  rw[←u]
  exact mO _ K _ Zh
 obtain⟨c,B⟩:∃c:Nat,s[k].toNat=c:=⟨_,rfl⟩
 rw[B] at K m u
 have HG:=V L
 have HV:=V hv
 have HF:=V y
 have HN:=V m
 have z:=V u
 have X:(0:Int)≤(k:Int):=O
 have a6:(k:Int) < (s.size:Int):=O
 have a5:¬(k:Int) < 0:=O
 have a4:¬(s.size:Int)≤(k:Int):=O
 have w7:bits .and .i64 (c:Int) 7=(c:Int) % 8:=bits_mask .i64 62 zD (fun n _ _=>Og _ O) 3 zD c O O
 have H:bits .and .i64 (c:Int) 15=(c:Int) % 16:=bits_mask .i64 62 zD (fun n _ _=>Og _ O) 4 zD c O O
 have J:bits .and .i64 (c:Int) 31=(c:Int) % 32:=bits_mask .i64 62 zD (fun n _ _=>Og _ O) 5 zD c O O
 have D:Ov.wrap (c:Int)=(c:Int):=Og _ O
 clear L hv y h m u
 go_enter func209,ntmps209
 go_upto_block 0 with(fail)
 go_cut [7,8] (fun nv bv wx=>nv=I n∧bv=I b∧Z (wx=w))
 case first=>
  by_cases g:240≤c
  ·have q1:(240:Int)≤(c:Int):=O
   have Il:Z (n=4):=V (by rw[←HN.o];unfold uD;rw[OG g])
   have Ik:Z ((b:Int)=(c:Int) % 8):=V (by rw[←z.o];unfold uD;rw[OG g];omega)
   exact pj
  have q1:¬(240:Int)≤(c:Int):=O
  by_cases l:224≤c
  ·have q2:(224:Int)≤(c:Int):=O
   have Il:Z (n=3):=V (by rw[←HN.o];unfold uD;rw[Om g,OG l])
   have Ik:Z ((b:Int)=(c:Int) % 16):=V (by rw[←z.o];unfold uD;rw[Om g,OG l];omega)
   exact pj
  have q2:¬(224:Int)≤(c:Int):=O
  by_cases A:192≤c
  ·have q3:(192:Int)≤(c:Int):=O
   have Il:Z (n=2):=V (by rw[←HN.o];unfold uD;rw[Om g,Om l,OG A])
   have Ik:Z ((b:Int)=(c:Int) % 32):=V (by rw[←z.o];unfold uD;rw[Om g,Om l,OG A];omega)
   exact pj
  have q3:¬(192:Int)≤(c:Int):=O
  have Il:Z (n=1):=V (by rw[←HN.o];unfold uD;rw[Om g,Om l,Om A])
  have Ik:Z ((b:Int)=(c:Int)):=V (by rw[←z.o];unfold uD;rw[Om g,Om l,Om A])
  go_wp2_with fail
  go_meet
  exact⟨by rw[Il.o];rfl,by rw[Ik.o],V rfl⟩
 case rest=>
  obtain⟨rfl,rfl,R⟩:=hcut
  obtain⟨Q,rfl⟩:∃Q:Oc,Q=wc:=⟨_,rfl⟩
  have F:=R.o
  subst F
  clear w7 H J D
  by_cases P:s.size - k < n
  ·have e:sR s k=(-1,(k:Int)):=by
    unfold sR
    rw[HG.o,OG P]
   have hv:=HV.o
   rw[e] at hv
   injection hv with h1 q
   subst h1 q
   have G:(s.size:Int) - k < n:=O
   clear e
   go_wp2_with fail
   go_ret2
   exact⟨rfl,Ok _ _⟩
  ·have G:¬(s.size:Int) - k < n:=O
   have Ec:Z (bK (s.data.toList.drop k)=if gS (Zp b ((s.data.toList.drop (k+1)).take (n - 1)))=(s.data.toList.drop k).take n then some (Zp b ((s.data.toList.drop (k+1)).take (n - 1)),n) else none):=V (by rw[HG.o,Om P])
   go_wp2_with fail
   go_loop [8,9] (fun r i=>∃j f:Nat,1≤j∧j≤n∧i=I j∧r=I f∧f < 67108864∧Z (f=Zp b ((s.data.toList.drop (k+1)).take (j - 1)))) (fun _ i=>n - (intOf i).toNat)
   case atStart=>
    exact Hj
   case round=>
    obtain⟨j,f,T,U,rfl,rfl,hf,HJ⟩:=hrel
    by_cases a7:j < n
    ·have a0:k+j < s.size:=O
     have S:=s[k+j].toNat_lt
     have e1:=QW (s[k+j].toNat:Int) O O
     have e2:Ov.wrap (s[k+j].toNat:Int)=(s[k+j].toNat:Int):=Og _ O
     exact L9
    ·have E:j=n:=O
     subst E
     obtain⟨p,hp⟩:∃p,gS f=p:=⟨_,rfl⟩
     obtain⟨t,ht⟩:∃t,(s.data.toList.drop k).take j=t:=⟨_,rfl⟩
     have Fz:=fun W=>Lr (f:Int) O O p YN W
     have hcut:s.extract k (k+j)=⟨t.toArray⟩:=by rw[LK,ht]
     have e5:Ov.wrap ((k:Int)+j)=(k:Int)+j:=Og _ O
     have G5:=Ec.o
     rw[←HJ.o,hp,ht] at G5
     have a:=HV.o
     unfold sR at a
     rw[G5] at a
     by_cases d:p=t
     ·rw[OG d] at a
      subst d
      simp only[Rt] at a
      obtain⟨h1,q⟩:=a
      subst h1 q
      exact MW
     ·rw[Om d] at a
      simp only[Rt] at a
      obtain⟨h1,q⟩:=a
      subst h1 q
      have aa:(p==t)=false:=by simpa using d
      exact MW
theorem wD (s:Oy)(hs:s.size≤4294967296)(w:Oc) :
  C 171 #[.string s] w fun e w'=>e=RR (.bool (uM s.size s.data.toList))∧Od w w w':=by
 obtain⟨b,g⟩:∃b,uM s.size s.data.toList=b:=⟨_,rfl⟩
 rw[g]
 have h:X5 s 0=b:=by
  unfold X5
  rw[List.drop_zero,jJ]
  exact g
 have f:=V h
 clear g h
 go_enter func171,ntmps171
 go_wp2_with fail
 go_loopw [3] (fun i wr=>∃k:Nat,k≤s.size∧i=I k∧Z (Od w w wr)∧Z (X5 s k=b)) (fun i _=>s.size - (intOf i).toNat)
 case atStart=>exact⟨0,OE _,rfl,V (Ok _ _),f⟩
 case round=>
  obtain⟨k,m,rfl,HL,HV⟩:=hrel
  by_cases d:k < s.size
  ·rcases Qf s k d with⟨hg,hf⟩|⟨v,n,hg,hn1,hn2,hf⟩
   ·have c:=rp s k d hs _ _ hg wr
    have HN:=V (HV.o.symm.trans hf)
    clear hg hf
    go_wp2_with (first
     |(go_at_call 209;refine c.mono ?_;rintro e l ⟨rfl,a⟩;have ah:=V a;clear a)
     |fail)
    go_ret
    exact⟨xy HN.o.symm,Uj HL.o ah.o⟩
   ·have c:=rp s k d hs _ _ hg wr
    have HN:=V (hf.symm.trans HV.o)
    have j:¬(v:Int) < 0:=O
    clear hg hf
    go_wp2_with (first
     |(go_at_call 209;refine c.mono ?_;rintro e l ⟨rfl,a⟩;have ah:=V a;clear a)
     |fail)
    exact EO
  ·exact M3
theorem dJ (s:Oy)(hs:s.size≤140737488351232)(w:Oc) :
  C 114 #[.string s] w fun e w'=>e=RR (.bool (zY s.data.toList))∧Od w w w':=by
 obtain⟨b,h⟩:∃b,zY s.data.toList=b:=⟨_,rfl⟩
 rw[h]
 have dz:=V h
 clear h
 by_cases f:s.size=0
 ·have j:s=⟨#[]⟩:=by
   apply Z8
   exact Oi (by rw[jJ];exact f)
  subst j
  have hn:b=false:=by
   rw[←dz.o]
   rfl
  subst hn
  clear dz f
  exact Hh
 have l:(s.toList==[])=false:=ZA s [] (fun e=>f (by rw[e];rfl))
 by_cases h1:64 < s.size
 ·have hn:b=false:=by
   exact FQ
  subst hn
  have g:(64:Int) < s.size:=O
  exact Hh
 have g:¬(64:Int) < s.size:=O
 have d:=wD s O w
 have HD:Z (∀v,uM s.size s.data.toList=v→b=(v && s.data.toList.all fun c=>!gR c.toNat)):=V (fun v hv=>by
  rw[←dz.o]
  unfold zY
  rw[jJ,hv,OS (show s.size≤64 by omega),OD (show ¬s.data.toList=[] from fun e=>f (by rw[←jJ s,e];rfl))]
  rfl)
 generalize uM s.size s.data.toList=v at d HD
 cases v with
 |false=>
  have hn:b=false:=by rw[HD.o false rfl];simp
  subst hn
  clear HD
  go_enter func114,ntmps114
  go_wp2_with (first
   |(go_at_call 171;refine d.mono ?_;rintro e m ⟨rfl,a⟩;have ah:=V a;clear a)
   |fail)
  go_ret
  exact⟨rfl,ah.o⟩
 |true=>
  go_enter func114,ntmps114
  go_wp2_with (first
   |(go_at_call 171;refine d.mono ?_;rintro e m ⟨rfl,a⟩;have ah:=V a;clear a)
   |fail)
  go_loop [3] (fun i=>∃k:Nat,k≤s.size∧i=I k∧Z (((s.data.toList.take k).all fun c=>!gR c.toNat)=true)) (fun i=>s.size - (intOf i).toNat)
  case atStart=>exact⟨0,OE _,rfl,V rfl⟩
  case round=>
   exact zzm3q
end
section
open Go.Shelf Go.RowKit
attribute [local go_sem ↓] Go.wp_at_zero Go.wp_at_succ
theorem wC (v:Oe)(S:Ob Nat)(l:Ob xA)(id top:Int)(w:Oc)(hr:NN w S 6 v l.length (zU uZ l))(hn:l.length≤1099511627775) :
  C 121 #[v,I id,I top] w fun e w'=>e=RR (.bool (uL l top (l.length+1) id))∧Od w w w':=by
 obtain⟨b,u⟩:∃b,uL l top (l.length+1) id=b:=⟨_,rfl⟩
 rw[u]
 obtain⟨A,B,x,_,_⟩:=hr.form
 obtain⟨n,h⟩:∃n,l.length=n:=⟨_,rfl⟩
 rw[h] at x u
 have HR:=V hr
 have y:=V u
 have HV:=V x
 have z:=V h
 rw[x]
 have T:n≤1099511627775:=O
 clear hr u x h
 go_enter func121,ntmps121
 go_wp2_with fail
 go_loopw [1,7] (fun c i wr=>∃(k:Nat) (cur:Int),k≤n+1∧i=I k∧c=I cur∧Z (Od w w wr)∧Z (uL l top (n+1 - k) cur=b)) (fun _ i _=>n+1 - (intOf i).toNat)
 case atStart=>exact⟨0,id,OE _,rfl,rfl,V (Ok _ _),y⟩
 case round=>
  obtain⟨k,cur,W,rfl,rfl,HU,HT⟩:=hrel
  by_cases R:k < n+1
  ·have D:(k:Int)≤(n:Int):=O
   have Q:Ov.wrap ((k:Int)+1)=(k:Int)+1:=Og _ O
   obtain⟨f,L⟩:∃f,n+1 - k=f+1:=⟨n - k,O⟩
   have hu:=HT.o
   rw[L,uL] at hu
   by_cases hc:cur=top
   ·exact Fd
   ·rw[Om hc] at hu
    have hq:(cur==top)=false:=vM
    have a:=Yy (RO A n B) [] l cur wr IX O
    by_cases hin:cur∈ids l
    ·obtain⟨i,hi,h1,_,_,_,G⟩:=YR hin
     rw[G] at hu
     simp only at hu
     rw[h1] at a
     obtain⟨E,s,F,p,_,_,Fx,_,aj⟩:=HR.o.at_ O
     have q:=HV.o.symm.trans p
     have K:A=some ⟨E,s,none⟩:=(OM q).1
     subst K
     have J:wr.cell? (Y E (s+i * 6+2))=some (I l[i].zB):=by
      exact Fi
     obtain⟨t,m⟩:∃t,l[i].zB=t:=⟨_,rfl⟩
     rw[m] at J hu
     have M:(i:Int) < (n:Int):=by rw[z.o] at hi;omega
     have P:¬(i:Int) < 0:=O
     have N:(0:Int)≤(i:Int):=O
     have HB:Z (uL l top (n+1 - (k+1)) t=b):=V (by rw[show n+1 - (k+1)=f by omega];exact hu)
     clear hu h1 G aj p q hin hc m
     go_wp2_with (first
      |(go_at_call 55;refine a.mono ?_;rintro e U ⟨rfl,rfl⟩;clear a)
      |fail)
     refine⟨?_,zV⟩
     first|exact⟨k+1,t,O,zE,rfl,HU,HB⟩|((repeat apply OA);exact⟨⟨k+1,t,O,zE,rfl,HU,HB⟩,rfl⟩)
    ·have d:=ua cur l
     have H:zZ l cur=false:=by
      exact G4
     rw[H] at d
     have j:xC cur l < 0:=by simpa using d
     have g:l.find? (fun b=>decide (b.id=cur))=none:=by
      exact GU
     rw[g] at hu
     simp only at hu
     generalize xC cur l=r at a j
     have HB:=V hu
     clear hu d H g hin hc
     go_wp2_with (first
      |(go_at_call 55;refine a.mono ?_;rintro e U ⟨rfl,rfl⟩;clear a)
      |fail)
     go_ret
     exact⟨xy HB.o,HU.o⟩
  ·have D:¬(k:Int)≤(n:Int):=O
   exact Fo
def yY (m:Ob (Int×Int))(box:Int):Int:=match m.find? (fun p=>decide (p.1=box)) with
 |some p=>p.2
 |none=>0
theorem aH:∀(l:Ob (Int×Int)) (b:Int) (k:Nat) (hk:k < l.length),(∀t (ht:t < l.length),t < k→l[t].1≠b)→l[k].1=b→yY l b=l[k].2
 |[],_,k,hk,_,_=>by simp at hk
 |y :: r,b,0,_,_,h=>by
  have h0:y.1=b:=h
  simp[yY,h0]
 |y :: r,b,k+1,hk,hlt,h=>by
  have h0:¬y.1=b:=hlt 0 zv O
  have h1:=aH r b k yi (fun t ht htk=>by have:=hlt (t+1) zT O;simpa using this) vZ
  unfold yY at h1 ⊢
  rw[Pb Xq,h1]
  rfl
theorem wO:∀(l:Ob (Int×Int)) (b:Int),(∀t (ht:t < l.length),l[t].1≠b)→yY l b=0:=fun l b h=>by
 unfold yY
 rw[List.find?_eq_none.2]
 exact GN
theorem Vh (w:Oc)(a0 a1 a3 a6 a7:Int)(s2:Oy)(vk vm:Oe)(l:Ob (Int×Int))(b:Int)(hm:NN w [] 2 vm l.length (zU yC l))(hn:l.length≤1099511627776) :
  C 54 #[.agg #[I a0,I a1,.string s2,I a3,vk,vm,I a6,I a7],I b] w fun e w'=>e=RR (I (yY l b))∧Od w w w':=by
 obtain⟨n,i⟩:∃n,l.length=n:=⟨_,rfl⟩
 rw[i] at hm hn
 obtain⟨A,m,rfl,_,_⟩:=hm.form
 obtain⟨R,x⟩:∃R,yY l b=R:=⟨_,rfl⟩
 have d:∀k (G:k < l.length),(∀t (ht:t < l.length),t < k→l[t].1≠b)→l[k].1=b→l[k].2=R:=fun k G v h2=>by
  rw[←x]
  exact(aH l b k G v h2).symm
 have r:(∀t (ht:t < l.length),l[t].1≠b)→(0:Int)=R:=fun h=>by
  rw[←x]
  exact(wO l b h).symm
 have P:=V hm
 have ai:=V i
 have Q:=V d
 have N:=V r
 rw[x]
 clear hm i d r x
 go_enter func54,ntmps54
 go_upto_block 0 with(fail)
 obtain⟨j,a⟩:∃j:Oc,j=w.alloc (.cells #[I a0,I a1,.string s2,I a3,vk,RO A n m,I a6,I a7] 83):=⟨_,rfl⟩
 rw[←a]
 have B:=V (show Od w w j by rw[a];exact zt _ _)
 have S:j.cell? (Y w.heap.size 5)=some (RO A n m):=by rw[a];exact(NG.new _ _ _).cell 5
 clear a
 obtain⟨X,M⟩:∃X,X=w.heap.size:=⟨_,rfl⟩
 rw[←M] at S ⊢
 clear M
 go_wp2_with fail
 go_loop [5] (fun iv=>∃k:Nat,k≤n∧iv=I k∧Z (∀t (ht:t < l.length),t < k→l[t].1≠b)) (fun iv=>n - (intOf iv).toNat)
 case atStart=>exact⟨0,OE _,rfl,V (fun _ _ h=>by omega)⟩
 case round=>
  obtain⟨k,G,rfl,E⟩:=hrel
  by_cases af:k < n
  ·have q:(k:Int) < (n:Int):=O
   have W:(0:Int)≤(k:Int):=O
   have p:k < l.length:=vN
   have a2:Ov.wrap ((k:Int)+1)=(k:Int)+1:=Og _ O
   obtain⟨F,L,c1,s,_,_,H,_,c⟩:=P.o.at_ O
   have T:=(OM s).1
   subst T
   obtain⟨⟨y,z⟩,K⟩:∃y,l[k]=y:=⟨_,rfl⟩
   have g:∀u,u < 2→j.cell? (Y F (L+k * 2+u))=(yC (y,z))[u]?:=fun u hu=>by
    rw[O1]
    refine(B.o.cell H).trans ((c (k * 2+u) O).trans ?_)
    rw[yv yG l k u p hu,K]
   have d0:j.cell? (Y F (L+k * 2))=some (I y):=g 0 O
   have d1:j.cell? (Y F (L+k * 2+1))=some (I z):=g 1 O
   have f:=V K
   clear c s K g
   by_cases hc:y=b
   ·have U:(y==b)=true:=vM
    have D:Z (z=R):=V (by
     have v:=Q.o k p E.o (by rw[f.o];exact hc)
     rw[f.o] at v
     exact v)
    clear hc
    go_wp2_with fail
    go_ret
    exact⟨UE D.o,B.o⟩
   ·have U:(y==b)=false:=vM
    have fu:Z (∀t (ht:t < l.length),t < k+1→l[t].1≠b):=V (fun t ht h=>by
     by_cases J:t < k
     ·exact E.o t ht J
     ·obtain rfl:t=k:=O
      rw[f.o]
      exact hc)
    exact fM
  ·have q:¬(k:Int) < (n:Int):=O
   have D:Z ((0:Int)=R):=V (N.o (fun t ht=>E.o t ht (by rw[ai.o] at ht;omega)))
   go_wp2_with fail
   go_ret
   exact⟨UE D.o,B.o⟩
theorem nX (w:Oc)(a0 a1 a3 a6 a7:Int)(s2:Oy)(vk vm:Oe)(l:Ob (Int×Int))(hm:NN w [] 2 vm l.length (zU yC l))(hn:l.length≤1099511627776) :
  C 137 #[.agg #[I a0,I a1,.string s2,I a3,vk,vm,I a6,I a7]] w fun e w'=>∃v hh,e=RR v∧Sl w' 3 1 v hh l.length ((x9 l).map yJ)∧(∀b,hh=some b→w.heap.size≤b)∧Od w w w':=by
 obtain⟨i0,T,H,J,K⟩:=info_parts Try.infoInt3
 obtain⟨n,p⟩:∃n,l.length=n:=⟨_,rfl⟩
 rw[p] at hm
 obtain⟨A,m,rfl,_,_⟩:=hm.form
 have R:=V hm
 have ai:=V p
 have a2:n≤1099511627776:=O
 clear hm p
 go_enter func137,ntmps137
 go_upto_block 0 with(fail)
 obtain⟨h,g⟩:∃h:Oc,h=w.alloc (.cells #[I a0,I a1,.string s2,I a3,vk,RO A n m,I a6,I a7] 83):=⟨_,rfl⟩
 rw[←g]
 have q:=V (show Od w w h by rw[g];exact zt _ _)
 have B:h.cell? (Y w.heap.size 5)=some (RO A n m):=by rw[g];exact(NG.new _ _ _).cell 5
 clear g
 obtain⟨X,P⟩:∃X,X=w.heap.size:=⟨_,rfl⟩
 rw[←P] at B ⊢
 clear P
 have r:=V B
 clear B
 have F:Z (Yh h h l 0 (RO none 0 0)):=V ⟨Ok _ _,none,Sl.nil _ _ _,fun b hb=>(by cases hb)⟩
 go_wp2_with fail
 go_loopw [3,4] (fun o i wr=>∃k:Nat,k≤n∧i=I k∧Z (Yh h wr l k o)) (fun _ i _=>n - (intOf i).toNat)
 case atStart=>exact⟨0,OE _,rfl,F⟩
 case round=>
  obtain⟨k,hk,rfl,j⟩:=hrel
  have B:wr.cell? (Y X 5)=some (RO A n m):=(j.o.below.cell (OH _ _ r.o)).trans r.o
  by_cases af:k < n
  ·have jb:k < l.length:=vN
   have x:(k:Int) < (n:Int):=O
   have U:(0:Int)≤(k:Int):=O
   have W:Ov.wrap ((k:Int)+1)=(k:Int)+1:=Og _ O
   obtain⟨b,L,N,Q,_,_,t,_,aj⟩:=R.o.at_ O
   have S:=(OM Q).1
   clear Q
   subst S
   obtain⟨M,Fa⟩:∃M,l[k].1=M:=⟨_,rfl⟩
   have e0:wr.cell? (Y b (L+k * 2))=some (I M):=by
    refine((zj q.o j.o.below).cell t).trans ?_
    exact GC
   obtain⟨D,a,c⟩:=j.o.o
   obtain⟨A0,c0,rfl,_,_⟩:=a.form
   have f:=V a
   have d:=V c
   have E:=V Fa
   clear a c Fa aj
   go_wp2_with (first
    |(at_builtin;refine yc rfl _ _ 35 rfl underlying35 T H J K rfl zD f.o rfl 1 1 rfl rfl ?_ ?_ ?_ ?_)
    |fail)
   any_goals (first|(simp[Value.oneCell'];done)|(unfold maxLen;omega)|omega)
   intro v2 h2 w5 z u y
   have s:Z (Yh h w5 l (k+1) v2):=V (Yh.next (h1:=D) j.o jb (Ok _ wr) d.o (by rw[E.o];exact z) u y)
   clear z u y
   go_wp2_with fail
   refine⟨?_,zV⟩
   first|exact⟨k+1,O,zE,s⟩|((repeat apply OA);exact⟨⟨k+1,O,zE,s⟩,rfl⟩)
  ·have x:¬(k:Int) < (n:Int):=O
   have G:k=n:=O
   subst G
   obtain⟨D,a,c⟩:=j.o.o
   rw[Ou aW] at a
   have f:=V a
   have d:=V c
   clear a c
   go_wp2_with fail
   go_ret
   first|exact⟨_,D,rfl,by rw[ai.o];exact f.o,(fun b hb=>Ol q.o.size (d.o b hb)),zj q.o j.o.below⟩|exact⟨_,rfl,D,by rw[ai.o];exact f.o,(fun b hb=>Ol q.o.size (d.o b hb)),zj q.o j.o.below⟩
theorem Zm (w:Oc)(g:Nat)(q:zW)(x:Acc)(k i h:Int)(hs:zJ w g q x) :
  C 118 #[Y g 0,I k,I i,I h] w fun e w'=>e=RR (.agg #[I x.zA,I k,I i,I h])∧Od w w w':=by
 have c:=hs.vF
 have d:=hs.blk.lt
 obtain⟨b,a⟩:∃b,x.zA=b:=⟨_,rfl⟩
 rw[a] at c ⊢
 clear hs a
 go_enter func118,ntmps118
 go_wp2_with fail
 refine bodyPost_ret (v:=.agg #[I b,I k,I i,I h]) ?_ rfl ⟨rfl,?_⟩
 ·simp[results,Tryz.results118,go_sem]
 ·exact zt w _
theorem ZQ (w:Oc)(g:Nat)(q:zW)(x:Acc)(hs:zJ w g q x)(hf:Fit x) :
  C 116 #[Y g 0] w fun e w'=>e=RR (.bool (!x.ends))∧zK w w' g q (if x.ends then x else {x with zA:=x.zA+1}) q:=by
 have m:=hs.vF
 have s:=hs.frozen 9
 have n:w.cell? (Y g 6)=some (I x.N3.ym):=hs.cells 6
 have h:=hf.zA
 have i:=hf.N3.mod
 have H:=V hs
 cases k:x.ends with
 |true=>
  have a:x.N3.ym≤x.zA:=by simpa[Acc.ends] using k
  simp only[if_true,Bool.not_true]
  obtain⟨d,b⟩:∃d,x.zA=d:=⟨_,rfl⟩
  obtain⟨f,c⟩:∃f,x.N3.ym=f:=⟨_,rfl⟩
  rw[b] at m a
  rw[c] at n a
  have u:decide (f≤d)=true:=OS a
  clear hs k h i hf b c a
  go_enter func116,ntmps116
  go_wp2_with fail
  go_quiet (fail)
  go_wp2_with fail
  go_ret
  exact⟨rfl,zK.of_below H.o (zO (Ok _ _) _)⟩
 |false=>
  have a:¬x.N3.ym≤x.zA:=by simpa[Acc.ends] using k
  simp only[Px,if_false,Bool.not_false]
  have l:Z (∀W,W.heap=w.heap→Od w w W→zK w (W.setCell (Y g 9) (I (x.zA+1))) g q {x with zA:=x.zA+1} q):=V (fun W _ hb=>(zK.of_below H.o hb).trans ((H.o.later hb).vn 9 (I (x.zA+1)) {x with zA:=x.zA+1} rfl rfl rfl rfl))
  have v:Ov.wrap (x.zA+1)=x.zA+1:=Og _ O
  obtain⟨p,j⟩:∃p:Acc,p={x with zA:=x.zA+1}:=⟨_,rfl⟩
  rw[←j] at l ⊢
  obtain⟨d,b⟩:∃d,x.zA=d:=⟨_,rfl⟩
  obtain⟨f,c⟩:∃f,x.N3.ym=f:=⟨_,rfl⟩
  rw[b] at m a v l
  rw[c] at n a
  have u:decide (f≤d)=false:=OD a
  clear hs k h i hf b c a j
  go_enter func116,ntmps116
  go_wp2_with fail
  go_quiet (fail)
  have r:(w.drewN nq).cell? (Y g 9)=some (I d):=m
  have t:(w.drewN nq).frozen? (Y g 9)=false:=s
  go_wp2_with fail
  go_ret
  exact⟨rfl,l.o (w.drewN _) rfl (zO (Ok _ _) _)⟩
def Y3 (x:Acc)(name:yx)(zB but:Int):Bool:=x.zg.any (fun b=>decide (b.id≠but) && (decide (b.zB=zB) && decide (b.name=name)))||(decide (zB=0) && decide (Zn name=[105,110,98,111,120]))
theorem dM (w:Oc)(g:Nat)(q:zW)(x:Acc)(name:yx)(zB but:Int)(hs:zJ w g q x)(hnb:x.zg.length≤1099511627776)(hnl:name.length≤140737488351232) :
  C 115 #[Y g 0,Oa name,I zB,I but] w fun e w'=>e=RR (.bool (Y3 x name zB but))∧Od w w w':=by
 obtain⟨A,c,U,_,_⟩:=hs.zg.form
 have z:=hs.yZ
 rw[U] at z
 obtain⟨n,p⟩:∃n,x.zg.length=n:=⟨_,rfl⟩
 obtain⟨R,L⟩:∃R,Y3 x name zB but=R:=⟨_,rfl⟩
 have i:∀k (S:k < x.zg.length),x.zg[k].id≠but→x.zg[k].zB=zB→x.zg[k].name=name→true=R:=fun k S Q h2 h3=>by
  rw[←L]
  unfold Y3
  rw[Ps.2 ⟨x.zg[k],Oj S,by simp[Q,h2,h3]⟩]
  rfl
 have r:(∀t (ht:t < x.zg.length),¬(x.zg[t].id≠but∧x.zg[t].zB=zB∧x.zg[t].name=name))→(decide (zB=0) && decide (Zn name=[105,110,98,111,120]))=R:=fun h=>by
  rw[←L]
  unfold Y3
  have Q:(x.zg.any fun b=>decide (b.id≠but) && (decide (b.zB=zB) && decide (b.name=name)))=false:=by
   rw[List.any_eq_false]
   exact GN
  rw[Q,Bool.false_or]
 have Fy:=Uo ⟨name.toArray⟩ w (by show name.toArray.size≤_;simpa using hnl)
 obtain⟨s,m⟩:∃s,Zn name=s:=⟨_,rfl⟩
 have E:bO ⟨name.toArray⟩=⟨s.toArray⟩:=by
  rw[←m]
  simp[bO,Zn]
 rw[E] at Fy
 rw[m] at r
 have X:Z (Sl w 73 6 (RO A x.zg.length c) q.hb x.zg.length (zU uZ x.zg)):=V (by rw[←U];exact hs.zg)
 have ai:=V p
 have HY:=V i
 have HN:=V r
 rw[L]
 rw[p] at hnb z X
 clear hs p i r L U E m
 go_enter func115,ntmps115
 go_wp2_with fail
 go_loop [9] (fun iv=>∃k:Nat,k≤n∧iv=I k∧Z (∀t (ht:t < x.zg.length),t < k→¬(x.zg[t].id≠but∧x.zg[t].zB=zB∧x.zg[t].name=name))) (fun iv=>n - (intOf iv).toNat)
 case atStart=>exact⟨0,OE _,rfl,V (fun _ _ h=>by omega)⟩
 case round=>
  obtain⟨k,S,rfl,W⟩:=hrel
  by_cases af:k < n
  ·have F:(k:Int) < (n:Int):=O
   have a0:(0:Int)≤(k:Int):=O
   have D:k < x.zg.length:=vN
   have a1:Ov.wrap ((k:Int)+1)=(k:Int)+1:=Og _ O
   obtain⟨K,N,c1,_,G,_,_,_,f⟩:=X.o.at_ O
   have B:=(OM G).1
   subst B
   obtain⟨y,hy⟩:∃y,x.zg[k]=y:=⟨_,rfl⟩
   have d:∀u,u < 6→w.cell? (Y K (N+k * 6+u))=(uZ y)[u]?:=fun u hu=>by
    rw[O1,(f (k * 6+u) O).1,yv xF x.zg k u D hu,hy]
   obtain⟨H,M,J,v0,x0,m0⟩:=y
   have d0:w.cell? (Y K (N+k * 6))=some (I H):=d 0 O
   have d1:w.cell? (Y K (N+k * 6+1))=some (RP ⟨M.toArray⟩):=d 1 O
   have d2:w.cell? (Y K (N+k * 6+2))=some (I J):=d 2 O
   have a:¬(H≠but∧J=zB∧M=name)→∀t (ht:t < x.zg.length),t < k+1→¬(x.zg[t].id≠but∧x.zg[t].zB=zB∧x.zg[t].name=name):=fun h t ht h2=>by
    by_cases T:t < k
    ·exact W.o t ht T
    ·obtain rfl:t=k:=O
     rw[hy]
     exact h
   have j:=V a
   have l:=V hy
   clear f G hy d a
   by_cases q1:H=but
   ·have B:(H !=but)=false:=JD
    have fu:=V (j.o (fun h=>h.1 q1))
    clear q1
    exact oP
   have B:(H !=but)=true:=JD
   by_cases q2:J=zB
   ·have e2:(J==zB)=true:=bD
    by_cases P:M=name
    ·subst P
     have v:Z (true=R):=V (HY.o k D (by rw[l.o];exact q1) (by rw[l.o];exact q2) (by rw[l.o]))
     clear q1 q2
     go_wp2_with fail
     go_ret
     exact⟨uG v.o,Ok _ _⟩
    ·have e3:(M==name)=false:=by simpa using P
     have fu:=V (j.o (fun h=>P h.2.2))
     clear q1 q2 P
     exact oP
   ·have e2:(J==zB)=false:=bD
    have fu:=V (j.o (fun h=>q2 h.2.1))
    clear q1 q2
    exact oP
  ·have F:¬(k:Int) < (n:Int):=O
   have v:Z ((decide (zB=0) && decide (s=[105,110,98,111,120]))=R):=V (HN.o (fun t ht=>W.o t ht (by rw[ai.o] at ht;omega)))
   by_cases q1:zB=0
   ·have B:(zB==0)=true:=JD
    by_cases q2:s=[105,110,98,111,120]
    ·have HF:Z (true=R):=V (by rw[←v.o,OS q1,OS q2];rfl)
     subst q2
     clear q1
     exact EZ
    ·have HF:Z (false=R):=V (by rw[←v.o,OD q2,Bool.and_false])
     have e2:(s==[105,110,98,111,120])=false:=bD
     clear q1 q2
     exact EZ
   ·have B:(zB==0)=false:=JD
    have HF:Z (false=R):=V (by rw[←v.o,OD q1,Bool.false_and])
    clear q1
    go_wp2_with fail
    go_ret
    exact⟨uG HF.o,Ok _ _⟩
theorem zK.newer {w W W2:Oc}{g:Nat}{q:zW}{x x1:Acc}{S:Ob Nat}(h:zK w W g q x1 q)(hw:zJ w g q x)(hc:NH S W W2)(hS:∀k∈S,w.heap.size≤k):zK w W2 g q x1 q:=by
 exact Mf
theorem kS (w:Oc)(g:Nat)(q:zW)(x:Acc)(h:zJ w g q x)(hn:x.zg.length≤1099511627776)(id:Int)(hid:id∈ids x.zg)(hnx:0≤yb x.zg id∧yb x.zg id≤4294967296) :
  C 132 #[Y g 0,I id] w fun e w'=>e=RR (I (yb x.zg id))∧zK w w' g q {x with zg:=JR id x.zg} q:=by
 obtain⟨k,y,A,_,B,D,_⟩:=YR hid
 obtain⟨b,a,i,u,p,K,F,J,m⟩:=h.Vn k y
 have j:w.cell? (Y g 10)=some (RO (some (Y b a)) x.zg.length i):=h.yZ.trans (by rw[u])
 obtain⟨l,R⟩:=m 4 O
 have z:w.cell? (Y b (a+k * 6+4))=some (I x.zg[k].next):=l
 clear l
 have d:=Yy (RO (some (Y b a)) x.zg.length i) [] x.zg id w (by rw[←u];exact h.zg.reads [] zv) hn
 rw[A] at d
 have t:=h.vU u k y 4 O (I (x.zg[k].next+1)) {x.zg[k] with next:=x.zg[k].next+1} rfl
 have n:JR id x.zg=x.zg.set k {x.zg[k] with next:=x.zg[k].next+1}:=D _
 rw[←n] at t
 have s:b≠g:=fun e=>h.apart.hb (by rw[p,e])
 rw[B] at hnx ⊢
 obtain⟨c,f⟩:∃c,x.zg[k].next=c:=⟨_,rfl⟩
 rw[f] at z t hnx ⊢
 have E:=V t
 have M:Ov.wrap (c+1)=c+1:=Og _ O
 have N:Ov.wrap (c+1 - 1)=c:=by
  rw[show c+1 - 1=c by omega]
  exact Og _ O
 have P:Ov.wrap c=c:=Og _ O
 have G:(0:Int)≤(k:Int):=O
 obtain⟨v,r⟩:∃v,x.zg.length=v:=⟨_,rfl⟩
 rw[r] at j d y
 have H:(k:Int) < (v:Int):=O
 have L:¬g=b:=fun e=>s e.symm
 have S:(w.setCell (Y b (a+k * 6+4)) (I (c+1))).cell? (Y b (a+k * 6+4))=some (I (c+1)):=World.cell?_setCell_same' w _ _ (by rw[z];rfl)
 have Q:(w.setCell (Y b (a+k * 6+4)) (I (c+1))).cell? (Y g 10)=some (RO (some (Y b a)) v i):=(World.cell?_setCell_far w _ _ _ s).trans j
 clear h u p m A B D f n t hnx r
 go_enter func132,ntmps132
 go_wp2_with (first
  |(go_at_call 55;refine d.mono ?_;rintro e T ⟨rfl,rfl⟩;clear d)
  |fail)
 go_ret
 exact⟨rfl,E.o⟩
structure dW (w wr:Oc)(g:Nat)(q:zW)(x:Acc)(l:Ob Int)(k:Nat)(o:Oe)(h:OC Nat):Prop where
 o:Sl wr 159 4 o h k (yR (zX x.zA (l.take k)))
 new:∀b,h=some b→w.heap.size≤b
 st:zK w wr g q {x with zg:=zI x.zA (l.take k) x.zg} q
theorem UF (w:Oc)(g:Nat)(q:zW)(x:Acc)(h:zJ w g q x)(hn:x.zg.length≤1099511627776)(l:Ob Int)(v:Oe)(hr:NN w (q.own g) 1 v l.length (l.map yJ))(hin:l.length≤1099511627776)(hall:∀i∈l,i∈ids x.zg) :
  C 133 #[Y g 0,v] w fun e w'=>∃v' hh,e=RR v'∧Sl w' 159 4 v' hh l.length (yR (zX x.zA l))∧(∀b,hh=some b→w.heap.size≤b)∧zK w w' g q {x with zg:=zI x.zA l x.zg} q:=by
 obtain⟨i0,hi,ao,ap,aq⟩:=info_parts Try.infoEntry
 obtain⟨n,X⟩:∃n,l.length=n:=⟨_,rfl⟩
 obtain⟨A,aw,hv,_,_⟩:=hr.form
 subst hv
 have HW:=V h
 have a1:=V hall
 have HR:=V hr
 have ai:=V X
 have al:Z (dW w w g q x l 0 (RO none 0 0) none):=V ⟨Sl.nil _ _ _,(fun b hb=>by cases hb),by
  have y:=zK.refl h
  exact y⟩
 rw[X] at hin ⊢
 clear hr hall h X
 go_enter func133,ntmps133
 go_wp2_with fail
 go_loopw [5,6] (fun o i wr=>∃(k:Nat) (h:OC Nat),k≤n∧i=I k∧Z (dW w wr g q x l k o h)) (fun _ i _=>n - (intOf i).toNat)
 case atStart=>exact⟨0,none,OE _,rfl,al⟩
 case round=>
  obtain⟨k,h,hk,rfl,u⟩:=hrel
  by_cases af:k < n
  ·have D:k < l.length:=vN
   have a7:(k:Int) < (n:Int):=O
   have b4:(0:Int)≤(k:Int):=O
   have b5:Ov.wrap ((k:Int)+1)=(k:Int)+1:=Og _ O
   obtain⟨F,hid⟩:∃F,l[k]=F:=⟨_,rfl⟩
   have d:=u.o.st.at_
   have c:=vA x.zA (l.take k) x.zg
   have K:F∈ids (zI x.zA (l.take k) x.zg):=by
    rw[Z',←hid]
    exact a1.o _ (Oj D)
   obtain⟨j,hj,e1,_,_,e4,_⟩:=YR K
   obtain⟨r,G,P,E,B,_,_,b0,J⟩:=d.Vn j hj
   obtain⟨c5,f5⟩:=J 5 O
   have ad:wr.cell? (Y g 10)=some (RO (some (Y r G)) x.zg.length P):=by
    rw[d.yZ,E]
    simp only[c]
   have k9:wr.cell? (Y g 9)=some (I x.zA):=d.vF
   have hq:∀W,W.heap=wr.heap→C 55 #[RO (some (Y r G)) x.zg.length P,I F] W fun e w'=>e=RR (I (j:Int))∧W=w':=fun W he=>by
    have y:=(d.zg.heap he).reads [] zv
    rw[E] at y
    have Q:=Yy _ [] (zI x.zA (l.take k) x.zg) F W y (by simp only[c];exact hn)
    simp only[c] at Q
    rw[e1] at Q
    exact Q
   obtain⟨b3,o3,av,ab,_,_,a',L,H⟩:=(HR.o.N4 u.o.st.N4).at_ O
   have e3:=(OM ab).1
   subst e3
   have cs:wr.cell? (Y b3 (o3+k))=some (I F):=by
    refine(H k O).trans ?_
    rw[O5,Ot D,hid]
    rfl
   have b7:r≠g:=fun e=>d.apart.hb (by rw[B,e])
   have ar:r≠b3:=fun e=>L (e ▸ zW.Yo B)
   have M:zK w (wr.drew.setCell (Y r (G+j * 6+5)) (I x.zA)) g q {x with zg:=zI x.zA (l.take (k+1)) x.zg} q:=by
    have ht:=(d.later (zG wr)).vU E j hj 5 O (I x.zA) {(zI x.zA (l.take k) x.zg)[j] with mod:=x.zA} rfl
    have Q:=(u.o.st.trans (zK.of_below d (zG wr))).trans ht
    have h3:(zI x.zA (l.take k) x.zg).set j {(zI x.zA (l.take k) x.zg)[j] with mod:=x.zA}=zI x.zA (l.take (k+1)) x.zg:=by
     rw[Oh D,VC,hid]
     exact(e4 (fun b=>{b with mod:=x.zA})).symm
    rw[←h3]
    exact Q
   obtain⟨A0,t,R,_,_⟩:=u.o.o.form
   subst R
   have a9:Sl (wr.drew.setCell (Y r (G+j * 6+5)) (I x.zA)) 159 4 (RO A0 k t) h k (yR (zX x.zA (l.take k))):=by
    refine(u.o.o.heap (w':=wr.drew) rfl).far (p:=⟨r,G+j * 6+5,none⟩) (fun e=>?_) _
    have h5:=u.o.new r e
    have h6:=HW.o.lt r (zW.Yo B)
    omega
   have a5:(wr.drew.setCell (Y r (G+j * 6+5)) (I x.zA)).cell? (Y b3 (o3+k))=some (I F):=(World.cell?_setCell_far wr.drew _ _ _ ar).trans cs
   obtain⟨nb,U⟩:∃nb,x.zg.length=nb:=⟨_,rfl⟩
   rw[c,U] at hj
   rw[U] at ad hq
   have b1:(0:Int)≤(j:Int):=O
   have b2:(j:Int) < (nb:Int):=O
   obtain⟨u5,an⟩:∃u5,wr.cell? (Y r (G+j * 6+5))=some u5:=⟨_,c5⟩
   obtain⟨ck,T⟩:∃ck,x.zA=ck:=⟨_,rfl⟩
   have a:=V M
   have z:=V a9
   have s:=V a5
   have HQ:=V hq
   have ae:=V hid
   have N:=V T
   rw[T] at k9 a z s
   clear M a9 a5 hq hid K d e1 e4 E J c5 H ab U c T L B
   go_upto_region 5 with(fail)
   go_cut [] (fun wx=>Z (wx=wr.drew.setCell (Y r (G+j * 6+5)) (I ck)))
   case first=>
    go_region_held3 (fun W=>W.cell? (Y g 10)=some (RO (some (Y r G)) nb P)∧W.cell? (Y g 9)=some (I ck)∧W.cell? (Y b3 (o3+k))=some (I F)) (go_keep) (first
     |(go_at_call 55;refine(HQ.o _ zF).mono ?_;rintro e w4 ⟨rfl,rfl⟩)
     |fail)
    all_goals
     go_wp2_with fail
     go_meet
     exact V rfl
   case rest=>
    obtain⟨we,rfl⟩:∃we:Oc,we=wc:=⟨_,rfl⟩
    have ac:=hcut.o
    rw[←ac] at a z s
    have m:=Zm we g q _ 1 F 2 a.o.at_
    simp only at m
    try rw[N.o] at m
    have az:=s.o
    clear ac hcut ad k9 cs an f5
    go_wp2_with (first
     |(go_at_call 118;refine m.mono ?_;rintro e w6 ⟨rfl,S⟩;have ag:=V (z.o.keep (fun b hb=>S.block b (z.o.lt b hb)));have a2:=V S;clear m S)
     |(at_builtin;refine yc rfl _ _ 156 rfl underlying156 hi ao ap aq rfl zD ag.o rfl 1 1 rfl rfl ?_ ?_ ?_ ?_)
     |fail)
    ·simp[Value.oneCell']
    ·unfold maxLen
     omega
    ·omega
    ·intro v2 Q w7 aa a6 a8
     have HN:Z (dW w w7 g q x l (k+1) v2 Q):=V (by
      have b6:=a.o.N4.size
      have au:=a2.o.size
      have f:=a.o
      rw[←N.o] at f
      refine⟨?_,fun b hb=>?_,((f.trans (zK.of_below f.at_ a2.o)).newer HW.o a6 (fun k hk=>u.o.new k yi))⟩
      ·rw[Oh D,UN,vB,ae.o,N.o]
       exact aa
      ·rcases a8 with h3|⟨g2,h3,h4⟩
       ·exact u.o.new b V2
       ·rw[h3] at hb
        injection hb with hb
        omega)
     clear aa a6 a8
     go_wp2_with fail
     refine⟨?_,zV⟩
     first|exact⟨k+1,_,O,zE,HN⟩|((repeat apply OA);exact⟨⟨k+1,_,O,zE,HN⟩,rfl⟩)
  ·have a7:¬(k:Int) < (n:Int):=O
   have am:k=n:=O
   subst am
   have hu:=u.o
   obtain⟨A0,t,R,_,_⟩:=hu.o.form
   subst R
   have a0:l.take k=l:=Ou aW
   have HS:Z (Sl wr 159 4 (RO A0 k t) h k (yR (zX x.zA l))):=V (by
    have y:=hu.o
    rw[a0] at y
    exact y)
   have a4:Z (zK w wr g q {x with zg:=zI x.zA l x.zg} q):=V (by
    have y:=hu.st
    rw[a0] at y
    exact y)
   have a3:=V hu.new
   clear hu a0 u
   go_wp2_with fail
   go_ret
   first|exact⟨_,h,rfl,HS.o,a3.o,a4.o⟩|exact⟨_,rfl,h,HS.o,a3.o,a4.o⟩
end
end Go.Proofs.YtnofkliaofgiaaaGreatDoor
